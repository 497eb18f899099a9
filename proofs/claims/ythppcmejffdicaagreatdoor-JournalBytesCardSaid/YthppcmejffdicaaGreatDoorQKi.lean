/- The law JournalBytes: its walk. -/
import Derived.Test.YthppcmejffdicaaGreatDoorQKj
import Derived.Deep.CutRange
import Derived.Deep.CutBlock

set_option linter.unusedSimpArgs false
set_option linter.unusedVariables false
namespace Go.Proofs.YthppcmejffdicaaGreatDoor
open Go.RowKit Hach Num Jn

set_option maxRecDepth 100000 in
set_option maxHeartbeats 4000000 in
theorem JournalBytes_any (A : Option Addr) (n c p q : Nat) (xs : List (List UInt8)) (w : World) (hT : Tabs w) (hX : RowT w w.heap.size A n xs) (hn : n < 9223372036854775808) (hsm : ∀ k, (xs.getD k []).length < 9223372036854775808) (hp : p < 65536) (hq : q < 256) :
    Calls Tryz.prog 6 #[.slice A n c, .int .u16 p, .int .u8 q] w fun e w' => e = .returned (.bool true) ∧ Below w.heap.size w w' := by
  have hxl := hX.1
  go_enter Tryz.func6, Tryz.ntmps6
  go_wp2_with fail
  refine (sanity_any w hT).mono ?_
  rintro e w1 ⟨rfl, hE1⟩
  have hT1 := hT.ext hE1
  go_wp2_with fail
  refine (new_p w1).mono ?_
  rintro e w2 ⟨rfl, hD2, hE2⟩
  have hT2 := hT1.ext hE2
  obtain ⟨b, hb⟩ : ∃ b, b = w1.heap.size := ⟨_, rfl⟩
  rw [← hb] at hD2 ⊢
  have hb6 : 6 ≤ b := by have := hT1.sz; omega
  have hNb : w.heap.size ≤ b := by have := hE1.size; omega
  have hb2 : b < w2.heap.size := hD2.lt
  have HB := Lib.hid hb
  clear hb
  go_wp2_with fail
  refine (openPS hD2 new_ok (Nat.zero_lt_succ _) hT2 hb6 F0 F0r).mono ?_
  rintro e w3 ⟨g, Av, cv, rfl, hg, P0, hO3, K3⟩
  have hBw3 : Below w.heap.size w w3 := Below.trans (Ext.trans hE1 hE2) (K3.below (by omega) (by intro k hk; simp at hk; omega))
  obtain ⟨B, hB⟩ : ∃ B, B = w3.heap.size := ⟨_, rfl⟩
  have hbB : b < B := by rw [hB]; exact P0.dk.lt
  have hgB : g < B := by rw [hB]; exact P0.lg.lt
  have hNB : w.heap.size ≤ B := by omega
  have hNg : w.heap.size ≤ g := by omega
  have HBB := Lib.hid hB
  clear hO3 hB K3 hT2 hD2 hT1
  obtain ⟨m, hm⟩ : ∃ m, m = min n 5 := ⟨_, rfl⟩
  have hmn : m ≤ n := by omega
  have hm5 : m ≤ 5 := by omega
  have hmx : m ≤ xs.length := by omega
  have HM := Lib.hid hm
  clear hm
  go_upto_block 0 with fail
  go_cut [11, 12] from 26 (fun rv ev wx => OwnT wx B rv (cutR xs m) ∧ OwnI wx B ev (endL xs m) ∧ Apart rv ev ∧ PS wx b g (qz (flat (cutR xs m))) m false ∧ Below w.heap.size w wx ∧ B ≤ wx.heap.size)
  case first =>
    go_wp2_with fail
    go_loopw [11, 12, 13] (fun rv ev kv wr => ∃ j : Nat, j ≤ m ∧ kv = .int .i64 j ∧ OwnT wr B rv (cutR xs j) ∧ OwnI wr B ev (endL xs j) ∧ Apart rv ev ∧ PS wr b g (qz (flat (cutR xs j))) j false ∧ Below w.heap.size w wr ∧ B ≤ wr.heap.size) (fun _ _ kv _ => m - (intOf kv).toNat)
    case atStart => exact ⟨0, Nat.zero_le _, rfl, OwnT.nil _ _, OwnI.nil _ _, apart_nil _, P0, hBw3, by rw [HBB.out]; exact Nat.le_refl _⟩
    case round =>
      obtain ⟨j, hj, rfl, hO, hI, hAp, hP, hBw, hBs⟩ := hrel
      by_cases hlt : j < m
      · obtain ⟨ba, o, rfl, hbl, hc0⟩ := hX.2 (by omega)
        have hc : wr.cell? ⟨ba, o + j, none⟩ = some (txv (xs.getD j [])) := (Below.cell hBw (p := ⟨ba, o + j, none⟩) hbl).trans (hc0 j (by omega))
        have hsz := hsm j
        have happ := app_row (xs := xs) (j := j) (by omega) (by omega)
        have hcs := cutR_succ (xs := xs) (j := j) (by omega)
        have hes := endL_succ xs j
        have hfl := cutR_flat (xs := xs) (j := j + 1) (by omega)
        have hfl0 := cutR_flat (xs := xs) (j := j) (by omega)
        have HAPP := Lib.hid happ
        have HCS := Lib.hid hcs
        have HES := Lib.hid hes
        clear hc0 happ hcs hes
        generalize xs.getD j [] = s at hc hsz HAPP HCS
        unfold txv at hc
        have htk := take_min s 20
        have hsv := toArr_size s
        obtain ⟨sv, hsve⟩ : ∃ sv : ByteArray, (⟨s.toArray⟩ : ByteArray) = sv := ⟨_, rfl⟩
        rw [hsve] at hc htk hsv
        have HTK := Lib.hid htk
        have hsv2 : sv.size < 9223372036854775808 := by omega
        have HSV := Lib.hid hsv
        clear hsve htk hsv
        have hbw : ba < wr.heap.size := by omega
        have t1 : decide ((j : Int) < 5) = true := by simp; omega
        have t2 : decide ((j : Int) < (n : Int)) = true := by simp; omega
        go_wp2_with fail
        apply wp_region_seq (l := [_, _, _, _, _, _, _, _, _, _, _]) (t := [_]) [some 45, some 46, some 47, some 48, some 49, some 50, some 51, some 52, some 53, some 54, some 55, some 14] [[], [], [0, 1], [2], [], [], [4, 5], [6], [7], [8], [3, 9], [10]] [11, 11, 11, 11, 11, 11, 11, 11, 11, 11, 11] [eqv _, eqv _, eqv _, eqv _, eqv _, eqv _, eqv _, eqv _, eqv _, eqv _, (eqv (.string ⟨(s.take 20).toArray⟩))] (by kernel_rfl) (by kernel_rfl) ⟨?o0, ?o1, ?o2, ?o3, ?o4, ?o5, ?o6, ?o7, ?o8, ?o9, ?o10, trivial⟩ ?last
        case o0 => -- Op.move (Operand.tmp 0)
          intro xv W hE _
          simp only [putD, List.foldl_nil, List.getD_cons_zero]
          refine OpGoal.plain ?_
          go_wp2_with fail
          exact ⟨rfl, Ext.refl _, rfl⟩
        case o1 => -- Op.move (Operand.tmp 13)
          intro xv W hE _
          simp only [putD, List.foldl_nil, List.getD_cons_zero, List.getD_cons_succ]
          refine OpGoal.plain ?_
          go_wp2_with fail
          exact ⟨rfl, Ext.refl _, rfl⟩
        case o2 => -- Op.indexAddr 36 (Operand.tmp 45) (Operand.tmp 46)
          intro xv W hE hp
          have r0 : xv 0 = _ := hp.1
          have r1 : xv 1 = _ := hp.2.1
          clear hp
          simp only [putD, List.foldl_nil, List.foldl_cons, List.getD_cons_zero, List.getD_cons_succ, Act.put, List.setIfInBounds_toArray, List.set_cons_zero, List.set_cons_succ]
          refine OpGoal.plain ?_
          go_wp2_with fail
          exact ⟨rfl, Ext.refl _, rfl⟩
        case o3 => -- Op.load 9 (Operand.tmp 47)
          intro xv W hE hp
          have r2 : xv 2 = _ := hp.1
          clear hp
          have hcW : W.cell? ⟨ba, o + j, none⟩ = some (.string sv) := (hE.old (p := ⟨ba, o + j, none⟩) hbw).trans hc
          simp only [putD, List.foldl_nil, List.foldl_cons, List.getD_cons_zero, List.getD_cons_succ, Act.put, List.setIfInBounds_toArray, List.set_cons_zero, List.set_cons_succ]
          refine OpGoal.plain ?_
          go_wp2_with fail
          exact ⟨rfl, Ext.refl _, rfl⟩
        case o4 => -- Op.move (Operand.tmp 0)
          intro xv W hE _
          simp only [putD, List.foldl_nil, List.getD_cons_zero, List.getD_cons_succ]
          refine OpGoal.plain ?_
          go_wp2_with fail
          exact ⟨rfl, Ext.refl _, rfl⟩
        case o5 => -- Op.move (Operand.tmp 13)
          intro xv W hE _
          simp only [putD, List.foldl_nil, List.getD_cons_zero, List.getD_cons_succ]
          refine OpGoal.plain ?_
          go_wp2_with fail
          exact ⟨rfl, Ext.refl _, rfl⟩
        case o6 => -- Op.indexAddr 36 (Operand.tmp 49) (Operand.tmp 50)
          intro xv W hE hp
          have r4 : xv 4 = _ := hp.1
          have r5 : xv 5 = _ := hp.2.1
          clear hp
          simp only [putD, List.foldl_nil, List.foldl_cons, List.getD_cons_zero, List.getD_cons_succ, Act.put, List.setIfInBounds_toArray, List.set_cons_zero, List.set_cons_succ]
          refine OpGoal.plain ?_
          go_wp2_with fail
          exact ⟨rfl, Ext.refl _, rfl⟩
        case o7 => -- Op.load 9 (Operand.tmp 51)
          intro xv W hE hp
          have r6 : xv 6 = _ := hp.1
          clear hp
          have hcW : W.cell? ⟨ba, o + j, none⟩ = some (.string sv) := (hE.old (p := ⟨ba, o + j, none⟩) hbw).trans hc
          simp only [putD, List.foldl_nil, List.foldl_cons, List.getD_cons_zero, List.getD_cons_succ, Act.put, List.setIfInBounds_toArray, List.set_cons_zero, List.set_cons_succ]
          refine OpGoal.plain ?_
          go_wp2_with fail
          exact ⟨rfl, Ext.refl _, rfl⟩
        case o8 => -- Op.call { callee := Callee.builtin Builtin.len, args := #[Operand.tmp 52], argTy
          intro xv W hE hp
          have r7 : xv 7 = _ := hp.1
          clear hp
          simp only [putD, List.foldl_nil, List.foldl_cons, List.getD_cons_zero, List.getD_cons_succ, Act.put, List.setIfInBounds_toArray, List.set_cons_zero, List.set_cons_succ]
          refine OpGoal.plain ?_
          go_wp2_with fail
          exact ⟨rfl, Ext.refl _, rfl⟩
        case o9 => -- Op.call { callee := Callee.builtin Builtin.min, args := #[Operand.tmp 53, Operan
          intro xv W hE hp
          have r8 : xv 8 = _ := hp.1
          clear hp
          simp only [putD, List.foldl_nil, List.foldl_cons, List.getD_cons_zero, List.getD_cons_succ, Act.put, List.setIfInBounds_toArray, List.set_cons_zero, List.set_cons_succ]
          refine OpGoal.plain ?_
          go_wp2_with fail
          exact ⟨rfl, Ext.refl _, rfl⟩
        case o10 => -- Op.slice 9 (Operand.tmp 48) none (some (Operand.tmp 54)) none
          intro xv W hE hp
          have r3 : xv 3 = _ := hp.1
          have r9 : xv 9 = _ := hp.2.1
          clear hp
          simp only [putD, List.foldl_nil, List.foldl_cons, List.getD_cons_zero, List.getD_cons_succ, Act.put, List.setIfInBounds_toArray, List.set_cons_zero, List.set_cons_succ]
          refine OpGoal.plain ?_
          go_wp2_with fail
          refine ⟨rfl, Ext.refl _, ?_⟩
          show Value.string _ = Value.string _
          rw [← HTK.out, ← HSV.out]
          rw [show (min (sv.size : Int) 20).toNat = min sv.size 20 by omega]
        case last =>
          intro xv W hE hp
          have r0 : xv 0 = _ := hp.1
          have r1 : xv 1 = _ := hp.2.1
          have r2 : xv 2 = _ := hp.2.2.1
          have r3 : xv 3 = _ := hp.2.2.2.1
          have r4 : xv 4 = _ := hp.2.2.2.2.1
          have r5 : xv 5 = _ := hp.2.2.2.2.2.1
          have r6 : xv 6 = _ := hp.2.2.2.2.2.2.1
          have r7 : xv 7 = _ := hp.2.2.2.2.2.2.2.1
          have r8 : xv 8 = _ := hp.2.2.2.2.2.2.2.2.1
          have r9 : xv 9 = _ := hp.2.2.2.2.2.2.2.2.2.1
          have r10 : xv 10 = _ := hp.2.2.2.2.2.2.2.2.2.2.1
          clear hp
          simp only [putD, List.foldl_nil, List.foldl_cons, List.getD_cons_zero, List.getD_cons_succ, Act.put, List.length_cons, List.length_nil, List.range_succ, List.range_zero, List.nil_append, List.cons_append, List.setIfInBounds_toArray, List.set_cons_zero, List.set_cons_succ]
          have hPW : PS W b g (qz (flat (cutR xs j))) j false := (hP.ext (Ext.drew _)).ext hE
          have hOW := (hO.ext (Ext.drew _)).ext hE
          have hIW := (hI.ext (Ext.drew _)).ext hE
          have hBW : Below w.heap.size w W := Below.trans hBw ((Ext.trans (Ext.drew _) hE).below.mono (by have : wr.drew.heap.size = wr.heap.size := rfl; omega))
          have hBsW : B ≤ W.heap.size := by have := hE.sz; simp at this; omega
          have htl : (s.take 20).length ≤ 20 := by simp; omega
          have r10' : xv 10 = .string ⟨(s.take 20).toArray⟩ := r10
          rw [r10']
          clear r0 r1 r2 r3 r4 r5 r6 r7 r8 r9 r10 r10' hc hO hI hP HTK HSV
          go_wp2_with fail
          refine (hPW.app2 HAPP.out (by omega) (by show (flat _).length < _; omega) (by omega) rfl).mono ?_
          rintro e wa ⟨rfl, Pa, Ka⟩
          have hOa := hOW.kb Ka (by intro k hk; simp at hk; omega)
          have hIa := hIW.kb Ka (by intro k hk; simp at hk; omega)
          have hBa : Below w.heap.size w wa := bkb hBW Ka (by omega) (by intro k hk; simp at hk; omega)
          have hBsa : B ≤ wa.heap.size := Nat.le_trans hBsW Ka.size
          clear hPW hOW hIW hBW hBsW hE Ka
          have hbase : ∀ o : Obj, B ≤ (wa.alloc o).heap.size := fun o => by rw [World.size_alloc]; omega
          have hlen : (cutR xs j).length < 4294967296 := by rw [cutR_len (by omega)]; omega
          go_wp2_with (at_builtin; refine app_T2 rfl 60 62 rfl B u11 _ rfl (hOa.ext (Ext.alloc _ _)) wa.heap.size (s.take 20) rfl ((World.cell?_alloc_new _ _ _ _).trans rfl) hlen (hbase _) ?_; intro v1 wb hO1 hg1 hn1)
          have hOx := hOa.ext (Ext.alloc wa (.cells #[.string ⟨(s.take 20).toArray⟩] 9))
          have hIx := hIa.ext (Ext.alloc wa (.cells #[.string ⟨(s.take 20).toArray⟩] 9))
          have hBrow : Below B wa wb := Below.trans ((Ext.alloc wa (.cells #[.string ⟨(s.take 20).toArray⟩] 9)).below.mono hBsa) (below_row hg1 (hbase _) (fun g hg => (OwnT.lt hOx g hg).1))
          have hBb : Below w.heap.size w wb := Below.trans hBa (hBrow.mono hNB)
          have hIb : OwnI wb B u12 (endL xs j) := hIx.keep hg1 hAp.ne
          have hAp1 : Apart v1 u12 := hAp.next hn1 (fun g hg => (OwnI.lt hIx g hg).2)
          have hPb := Pa.below hBrow hbB hgB (by omega)
          have hBsb : B ≤ wb.heap.size := Nat.le_trans hBsa hBrow.size
          have RD := read_p b (qz (flat (cutR xs (j + 1)))) wb hPb.dk
          rw [show (qz (flat (cutR xs (j + 1)))).text = flat (cutR xs (j + 1)) from rfl] at RD
          have zF := toArr_size (flat (cutR xs (j + 1)))
          generalize (⟨(flat (cutR xs (j + 1))).toArray⟩ : ByteArray) = FV at RD zF
          have HES2 : Hid (endL xs (j + 1) = endL xs j ++ [(FV.size : Int)]) := Lib.hid (by rw [HES.out, zF])
          have hfv : FV.size ≤ 400 := by omega
          have hlen2 : (endL xs j).length < 4294967296 := by rw [endL_len]; omega
          have hbase2 : ∀ o : Obj, B ≤ (wb.alloc o).heap.size := fun o => by rw [World.size_alloc]; omega
          clear zF HES Pa hBa hBsa hbase hlen hOa hg1
          refine RD.mono ?_
          rintro e wb' ⟨rfl, rfl⟩
          rename World => wb
          go_wp2_with (at_builtin; refine app_I2 rfl 64 68 rfl B u12 _ rfl (hIb.ext (Ext.alloc _ _)) wb.heap.size (FV.size : Int) rfl ((World.cell?_alloc_new _ _ _ _).trans rfl) hlen2 (hbase2 _) ?_; intro v2 wd hI2 hg2 hn2)
          have hIy := hIb.ext (Ext.alloc wb (.cells #[.int .i64 (FV.size : Int)] 3))
          have hOy := hO1.ext (Ext.alloc wb (.cells #[.int .i64 (FV.size : Int)] 3))
          have hBrow2 : Below B wb wd := Below.trans ((Ext.alloc wb (.cells #[.int .i64 (FV.size : Int)] 3)).below.mono hBsb) (below_row hg2 (hbase2 _) (fun g hg => (OwnI.lt hIy g hg).1))
          have hOd : OwnT wd B v1 (cutR xs j ++ [s.take 20]) := hOy.keep hg2 hAp1.symm.ne
          have hAp2 : Apart v1 v2 := (hAp1.symm.next hn2 (fun g hg => (OwnT.lt hOy g hg).2)).symm
          have hPd := hPb.below hBrow2 hbB hgB (by omega)
          go_roundw
          case rel => exact ⟨j + 1, by omega, by go_num, by rw [HCS.out]; exact hOd, by rw [HES2.out]; exact hI2, hAp2, hPd, Below.trans hBb (hBrow2.mono hNB), Nat.le_trans hBsb hBrow2.size⟩
          case measure => simp [intOf]; omega
      · obtain rfl : j = m := by omega
        have t1 : (decide ((j : Int) < (n : Int)) = false) ∨ (decide ((j : Int) < (n : Int)) = true ∧ decide ((j : Int) < 5) = false) := by
          have := HM.out
          by_cases h5 : j < n
          · right; simp; omega
          · left; simp; omega
        rcases t1 with t1 | ⟨t1, t2⟩
        · have t1n : decide (j < n) = false := by simp at t1 ⊢; omega
          go_wp2_with fail
          go_meet
          case rel => exact ⟨hO, hI, hAp, hP, hBw, hBs⟩
        · have t1n : decide (j < n) = true := by simp at t1 ⊢; omega
          clear t1
          go_wp2_with fail
          go_meet
          case rel => exact ⟨hO, hI, hAp, hP, hBw, hBs⟩
  case rest =>
    obtain ⟨hO, hI, hAp, hP, hBw, hBs⟩ := hcut
    have hTl := cutR_flat (xs := xs) (j := m) hm5
    have RD := read_p b (qz (flat (cutR xs m))) wc hP.dk
    rw [show (qz (flat (cutR xs m))).text = flat (cutR xs m) from rfl] at RD
    have hlaw := fun (k : Nat) (hk : k < (flat (cutR xs m)).length) => bytes_law (cutR xs m) k (UInt8.ofNat q) (fun r hr => by have := cutR_small r hr; omega) hk
    simp only [show ((cutR xs m).map line).flatten = flat (cutR xs m) from rfl] at hlaw
    obtain ⟨T, hTT⟩ : ∃ T, flat (cutR xs m) = T := ⟨_, rfl⟩
    rw [hTT] at hTl RD hlaw
    have hsv := toArr_size T
    obtain ⟨sv, hsve⟩ : ∃ sv : ByteArray, (⟨T.toArray⟩ : ByteArray) = sv := ⟨_, rfl⟩
    rw [hsve] at RD hsv
    have HLAW := Lib.hid hlaw
    have HTT := Lib.hid hTT
    have HSV := Lib.hid hsve
    have HSZ := Lib.hid hsv
    have hs4 : sv.size ≤ 400 := by omega
    clear hlaw hTT hsve hsv
    go_wp2_with fail
    refine RD.mono ?_
    rintro e wc' ⟨rfl, rfl⟩
    rename World => wc
    by_cases h0 : sv.size = 0
    · have t0 : ((sv.size : Int) == 0) = true := by rw [h0]; rfl
      go_wp2_with fail
      go_ret
      exact ⟨rfl, hBw⟩
    · have t0 : ((sv.size : Int) == 0) = false := by rw [beq_eq_false_iff_ne]; omega
      have hpos : 0 < sv.size := by omega
      obtain ⟨k, hk⟩ : ∃ k, p % sv.size = k := ⟨_, rfl⟩
      have hks : k < sv.size := by rw [← hk]; exact Nat.mod_lt _ hpos
      have hkk : (p : Int) % (sv.size : Int) = k := by rw [← hk]; rfl
      have hkt : (p : Int).tmod (sv.size : Int) = k := by rw [← hk]; rfl
      clear hk
      obtain ⟨y, rfl⟩ : ∃ y : UInt8, q = y.toNat := ⟨UInt8.ofNat q, by rw [UInt8.toNat_ofNat_of_lt' (by show q < 256; omega)]⟩
      have hlaw2 := HLAW.out k (by have := HSZ.out; omega)
      rw [UInt8.ofNat_toNat] at hlaw2
      have HLAW2 := Lib.hid hlaw2
      clear hlaw2 HLAW
      go_wp2_with fail
      apply wp_region_seq (l := [_, _, _, _, _, _, _, _, _, _, _, _]) (t := [_]) [some 81, some 82, some 83, some 84, some 85, some 86, some 87, some 88, some 89, some 90, some 91, some 92, some 17] [[], [], [0, 1], [], [3], [4], [2, 5], [], [], [8], [7, 9], [6, 10], [11]] [12, 12, 12, 12, 12, 12, 12, 12, 12, 12, 12, 12] [eqv _, eqv _, eqv _, eqv _, (slBytes [y]), (eqv (.string ⟨#[y]⟩)), eqv _, eqv _, eqv _, eqv _, eqv _, (eqv (.string ⟨(T.take k ++ y :: T.drop (k + 1)).toArray⟩))] (by kernel_rfl) (by kernel_rfl) ⟨?o0, ?o1, ?o2, ?o3, ?o4, ?o5, ?o6, ?o7, ?o8, ?o9, ?o10, ?o11, trivial⟩ ?last
      case o0 => -- Op.move (Operand.tmp 15)
        intro xv W hE _
        simp only [putD, List.foldl_nil, List.getD_cons_zero]
        refine OpGoal.plain ?_
        go_wp2_with fail
        exact ⟨rfl, Ext.refl _, rfl⟩
      case o1 => -- Op.move (Operand.tmp 16)
        intro xv W hE _
        simp only [putD, List.foldl_nil, List.getD_cons_zero, List.getD_cons_succ]
        refine OpGoal.plain ?_
        go_wp2_with fail
        exact ⟨rfl, Ext.refl _, rfl⟩
      case o2 => -- Op.slice 9 (Operand.tmp 81) none (some (Operand.tmp 82)) none
        intro xv W hE hp
        have r0 : xv 0 = _ := hp.1
        have r1 : xv 1 = _ := hp.2.1
        clear hp
        simp only [putD, List.foldl_nil, List.foldl_cons, List.getD_cons_zero, List.getD_cons_succ, Act.put, List.setIfInBounds_toArray, List.set_cons_zero, List.set_cons_succ]
        refine OpGoal.plain ?_
        go_wp2_with fail
        exact ⟨rfl, Ext.refl _, rfl⟩
      case o3 => -- Op.move (Operand.tmp 2)
        intro xv W hE _
        simp only [putD, List.foldl_nil, List.getD_cons_zero, List.getD_cons_succ]
        refine OpGoal.plain ?_
        go_wp2_with fail
        exact ⟨rfl, Ext.refl _, rfl⟩
      case o4 => -- Op.buildSlice 57 1 #[(0, Operand.tmp 84)]
        intro xv W hE hp
        have r3 : xv 3 = _ := hp.1
        clear hp
        simp only [putD, List.foldl_nil, List.foldl_cons, List.getD_cons_zero, List.getD_cons_succ, Act.put, List.setIfInBounds_toArray, List.set_cons_zero, List.set_cons_succ]
        refine OpGoal.plain ?_
        go_wp2_with fail
        refine ⟨rfl, Ext.alloc _ _, W.heap.size, 1, rfl, by simp, fun j hj => ?_⟩
        obtain rfl : j = 0 := by simpa using hj
        simp
      case o5 => -- Op.convert 57 9 (Operand.tmp 85)
        intro xv W hE hp
        obtain ⟨gb, cap, r4, hgb⟩ := hp.1
        clear hp
        have q0 := hgb.2 0 (by simp)
        simp only [List.getElem_cons_zero] at q0
        have hcv := byte_text q0 cap
        simp only [putD, List.foldl_nil, List.foldl_cons, List.getD_cons_zero, List.getD_cons_succ, Act.put, List.setIfInBounds_toArray, List.set_cons_zero, List.set_cons_succ]
        refine OpGoal.plain ?_
        go_wp2_with fail
        exact ⟨rfl, Ext.refl _, rfl⟩
      case o6 => -- Op.binOp BinOp.add 9 (Operand.tmp 83) (Operand.tmp 86) 9
        intro xv W hE hp
        have r2 : xv 2 = _ := hp.1
        have r5 : xv 5 = _ := hp.2.1
        clear hp
        simp only [putD, List.foldl_nil, List.foldl_cons, List.getD_cons_zero, List.getD_cons_succ, Act.put, List.setIfInBounds_toArray, List.set_cons_zero, List.set_cons_succ]
        refine OpGoal.plain ?_
        go_wp2_with fail
        exact ⟨rfl, Ext.refl _, rfl⟩
      case o7 => -- Op.move (Operand.tmp 15)
        intro xv W hE _
        simp only [putD, List.foldl_nil, List.getD_cons_zero, List.getD_cons_succ]
        refine OpGoal.plain ?_
        go_wp2_with fail
        exact ⟨rfl, Ext.refl _, rfl⟩
      case o8 => -- Op.move (Operand.tmp 16)
        intro xv W hE _
        simp only [putD, List.foldl_nil, List.getD_cons_zero, List.getD_cons_succ]
        refine OpGoal.plain ?_
        go_wp2_with fail
        exact ⟨rfl, Ext.refl _, rfl⟩
      case o9 => -- Op.binOp BinOp.add 3 (Operand.tmp 89) (Operand.const (Value.int IntKind.i64 1)) 
        intro xv W hE hp
        have r8 : xv 8 = _ := hp.1
        clear hp
        simp only [putD, List.foldl_nil, List.foldl_cons, List.getD_cons_zero, List.getD_cons_succ, Act.put, List.setIfInBounds_toArray, List.set_cons_zero, List.set_cons_succ]
        refine OpGoal.plain ?_
        go_wp2_with fail
        exact ⟨rfl, Ext.refl _, rfl⟩
      case o10 => -- Op.slice 9 (Operand.tmp 88) (some (Operand.tmp 90)) none none
        intro xv W hE hp
        have r7 : xv 7 = _ := hp.1
        have r9 : xv 9 = _ := hp.2.1
        clear hp
        simp only [putD, List.foldl_nil, List.foldl_cons, List.getD_cons_zero, List.getD_cons_succ, Act.put, List.setIfInBounds_toArray, List.set_cons_zero, List.set_cons_succ]
        refine OpGoal.plain ?_
        go_wp2_with fail
        exact ⟨rfl, Ext.refl _, rfl⟩
      case o11 => -- Op.binOp BinOp.add 9 (Operand.tmp 87) (Operand.tmp 91) 9
        intro xv W hE hp
        have r6 : xv 6 = _ := hp.1
        have r10 : xv 10 = _ := hp.2.1
        clear hp
        simp only [putD, List.foldl_nil, List.foldl_cons, List.getD_cons_zero, List.getD_cons_succ, Act.put, List.setIfInBounds_toArray, List.set_cons_zero, List.set_cons_succ]
        refine OpGoal.plain ?_
        go_wp2_with fail
        refine ⟨rfl, Ext.refl _, ?_⟩
        show Value.string _ = Value.string _
        rw [← HSV.out, ba_part, ba_part, toArr_size, show (⟨#[y]⟩ : ByteArray) = ⟨[y].toArray⟩ from rfl, ba_append, ba_append, List.drop_zero, Nat.sub_zero, List.take_of_length_le (l := T.drop (k + 1)) (by simp)]
        simp
      case last =>
        intro xv W hE hp
        have r0 : xv 0 = _ := hp.1
        have r1 : xv 1 = _ := hp.2.1
        have r2 : xv 2 = _ := hp.2.2.1
        have r3 : xv 3 = _ := hp.2.2.2.1
        obtain ⟨gb, cap, r4, hgb⟩ := hp.2.2.2.2.1
        have r5 : xv 5 = _ := hp.2.2.2.2.2.1
        have r6 : xv 6 = _ := hp.2.2.2.2.2.2.1
        have r7 : xv 7 = _ := hp.2.2.2.2.2.2.2.1
        have r8 : xv 8 = _ := hp.2.2.2.2.2.2.2.2.1
        have r9 : xv 9 = _ := hp.2.2.2.2.2.2.2.2.2.1
        have r10 : xv 10 = _ := hp.2.2.2.2.2.2.2.2.2.2.1
        have r11 : xv 11 = _ := hp.2.2.2.2.2.2.2.2.2.2.2.1
        clear hp
        simp only [putD, List.foldl_nil, List.foldl_cons, List.getD_cons_zero, List.getD_cons_succ, Act.put, List.length_cons, List.length_nil, List.range_succ, List.range_zero, List.nil_append, List.cons_append, List.setIfInBounds_toArray, List.set_cons_zero, List.set_cons_succ]
      -- REST (gen_ki_rest.py)
        have hBW : Below w.heap.size w W := Below.trans hBw ((Ext.trans (Ext.drew _) hE).below.mono (by have : wc.drew.heap.size = wc.heap.size := rfl; omega))
        have hBsW : B ≤ W.heap.size := by have := hE.sz; simp at this; omega
        have hOW := (hO.ext (Ext.drew _)).ext hE
        have hIW := (hI.ext (Ext.drew _)).ext hE
        have hTW : Tabs W := (hP.tabs.ext (Ext.drew _)).ext hE
        have e11 : xv 11 = .string ⟨(T.take k ++ y :: T.drop (k + 1)).toArray⟩ := r11
        rw [e11]
        have hOl : (T.take k ++ y :: T.drop (k + 1)).length = T.length := by
          have := HSZ.out
          simp only [List.length_append, List.length_take, List.length_cons, List.length_drop]; omega
        obtain ⟨A1, c1, eq1, hR1⟩ := OwnT.form hOW
        obtain ⟨A2, c2, eq2, hR2⟩ := OwnI.form hIW
        rw [cutR_len hmx] at eq1 hR1
        rw [endL_len] at eq2 hR2
        subst eq1 eq2
        have hlaw := HLAW2.out
        clear r0 r1 r2 r3 r4 r5 r6 r7 r8 r9 r10 r11 e11 hgb hOW hIW hO hI hE hAp HLAW2
        generalize hOO : T.take k ++ y :: T.drop (k + 1) = O at hlaw hOl ⊢
        clear hOO
        obtain ⟨same, hsame⟩ : ∃ same, decide (O = T) = same := ⟨_, rfl⟩
        have tsame : ((⟨O.toArray⟩ : ByteArray).toList == sv.toList) = same := by rw [← HSV.out, txt_beq]; exact hsame
        have hzO := toArr_size O
        have HZO := Lib.hid hzO
        obtain ⟨ov, hov⟩ : ∃ ov : ByteArray, (⟨O.toArray⟩ : ByteArray) = ov := ⟨_, rfl⟩
        rw [hov] at tsame ⊢
        have HOV := Lib.hid hov
        have HL := Lib.hid hlaw
        have HSAME := Lib.hid hsame
        clear hzO hov hlaw hsame
        obtain ⟨B2, hB2⟩ : ∃ B2, B2 = W.heap.size := ⟨_, rfl⟩
        have HB2 := Lib.hid hB2
        clear hB2
        go_wp2_with fail
        go_loopw [18, 19, 95] (fun sv fv iv wr => ∃ (i : Nat) (pre : List (List UInt8)), i ≤ m ∧ iv = .int .i64 i ∧ fv = .int .i64 ((flat (cutR xs i)).length : Nat) ∧ OwnT wr B2 sv pre ∧ wantsTo xs m k same i pre ∧ pre.length ≤ i ∧ Below B2 W wr) (fun _ _ iv _ => m - (intOf iv).toNat)
        case atStart => exact ⟨0, [], Nat.zero_le _, rfl, rfl, OwnT.nil _ _, wantsTo_zero _ _ _ _, Nat.le_refl _, Below.refl _ _⟩
        case round =>
          obtain ⟨i, pre, hi, rfl, rfl, hOr, hwt, hpl, hBr⟩ := hrel
          have hB2s : B2 ≤ wr.heap.size := by have := HB2.out; have := hBr.size; omega
          by_cases hlt : i < m
          · obtain ⟨be, rfl, _, hbe, hce⟩ := hR2 (by omega)
            obtain ⟨br, o1, rfl, hbr, hcr⟩ := hR1.2 (by omega)
            have hce1 := hce i (by omega)
            have hcr1 := hcr i (by omega)
            rw [endL_get hlt] at hce1
            rw [cutR_get hlt hmx] at hcr1
            unfold itv at hce1
            unfold txv at hcr1
            have hc2 : wr.cell? ⟨be, i, none⟩ = some (.int .i64 ((flat (cutR xs (i + 1))).length : Nat)) := (hBr.cell (p := ⟨be, i, none⟩) (by have := HB2.out; show be < B2; omega)).trans hce1
            have hc1 : wr.cell? ⟨br, o1 + i, none⟩ = some (.string ⟨((xs.getD i []).take 20).toArray⟩) := (hBr.cell (p := ⟨br, o1 + i, none⟩) (by have := HB2.out; show br < B2; omega)).trans hcr1
            have hws := wantsTo_succ hwt hlt hmx
            have hf := cutR_flat (xs := xs) (j := i) (by omega)
            have he := cutR_flat (xs := xs) (j := i + 1) (by omega)
            have hrl : ((xs.getD i []).take 20).length ≤ 20 := by simp; omega
            clear hce hcr hce1 hcr1 hwt
            generalize (xs.getD i []).take 20 = r at hc1 hws hrl
            obtain ⟨f, hfe⟩ : ∃ f, (flat (cutR xs i)).length = f := ⟨_, rfl⟩
            obtain ⟨e1, hee⟩ : ∃ e1, (flat (cutR xs (i + 1))).length = e1 := ⟨_, rfl⟩
            rw [hfe, hee] at hws
            rw [hfe] at hf ⊢
            rw [hee] at he hc2
            have HE1 := Lib.hid hee
            have hlen : pre.length < 4294967296 := by omega
            have hbase : ∀ o : Obj, B2 ≤ (wr.alloc o).heap.size := fun o => by rw [World.size_alloc]; omega
            clear hfe hee
            by_cases h1 : f ≤ k
            · have t1 : decide ((f : Int) ≤ (k : Int)) = true := by simp; omega
              by_cases h2 : k < e1
              · have t2 : decide ((k : Int) < (e1 : Int)) = true := by simp; omega
                rw [touched_yes (by omega)] at hws
                cases same with
                | true =>
                  have HWT := Lib.hid hws
                  clear hws
                  go_wp2_with (at_builtin; refine app_T2 rfl 121 126 rfl B2 u18 _ rfl (hOr.ext (Ext.alloc _ _)) wr.heap.size r rfl ((World.cell?_alloc_new _ _ _ _).trans rfl) hlen (hbase _) ?_; intro v1 wb hO1 hg1 hn1)
                  have hOx := hOr.ext (Ext.alloc wr (.cells #[.string ⟨r.toArray⟩] 9))
                  have hBrow : Below B2 wr wb := Below.trans ((Ext.alloc wr (.cells #[.string ⟨r.toArray⟩] 9)).below.mono hB2s) (below_row hg1 (hbase _) (fun g hg => (OwnT.lt hOx g hg).1))
                  go_roundw
                  case rel => exact ⟨i + 1, pre ++ [r], by omega, by go_num, by rw [HE1.out], hO1, by simpa using HWT.out, by rw [List.length_append]; simp; omega, Below.trans hBr hBrow⟩
                  case measure => simp [intOf]; omega
                | false =>
                  have HWT := Lib.hid hws
                  clear hws
                  go_wp2_with fail
                  go_roundw
                  case rel => exact ⟨i + 1, pre, by omega, by go_num, by rw [HE1.out], hOr, by simpa using HWT.out, by omega, hBr⟩
                  case measure => simp [intOf]; omega
              · have t2 : decide ((k : Int) < (e1 : Int)) = false := by simp; omega
                have t3 : ((k : Int) == (f : Int) - 1) = false := by rw [beq_eq_false_iff_ne]; omega
                rw [touched_no (by omega)] at hws
                have HWT := Lib.hid hws
                clear hws
                go_wp2_with (at_builtin; refine app_T2 rfl 121 126 rfl B2 u18 _ rfl (hOr.ext (Ext.alloc _ _)) wr.heap.size r rfl ((World.cell?_alloc_new _ _ _ _).trans rfl) hlen (hbase _) ?_; intro v1 wb hO1 hg1 hn1)
                have hOx := hOr.ext (Ext.alloc wr (.cells #[.string ⟨r.toArray⟩] 9))
                have hBrow : Below B2 wr wb := Below.trans ((Ext.alloc wr (.cells #[.string ⟨r.toArray⟩] 9)).below.mono hB2s) (below_row hg1 (hbase _) (fun g hg => (OwnT.lt hOx g hg).1))
                go_roundw
                case rel => exact ⟨i + 1, pre ++ [r], by omega, by go_num, by rw [HE1.out], hO1, by simpa using HWT.out, by rw [List.length_append]; simp; omega, Below.trans hBr hBrow⟩
                case measure => simp [intOf]; omega
            · have t1 : decide ((f : Int) ≤ (k : Int)) = false := by simp; omega
              by_cases h2 : k + 1 = f
              · have t3 : ((k : Int) == (f : Int) - 1) = true := by rw [beq_iff_eq]; omega
                rw [touched_yes (by omega)] at hws
                cases same with
                | true =>
                  have HWT := Lib.hid hws
                  clear hws
                  go_wp2_with (at_builtin; refine app_T2 rfl 121 126 rfl B2 u18 _ rfl (hOr.ext (Ext.alloc _ _)) wr.heap.size r rfl ((World.cell?_alloc_new _ _ _ _).trans rfl) hlen (hbase _) ?_; intro v1 wb hO1 hg1 hn1)
                  have hOx := hOr.ext (Ext.alloc wr (.cells #[.string ⟨r.toArray⟩] 9))
                  have hBrow : Below B2 wr wb := Below.trans ((Ext.alloc wr (.cells #[.string ⟨r.toArray⟩] 9)).below.mono hB2s) (below_row hg1 (hbase _) (fun g hg => (OwnT.lt hOx g hg).1))
                  go_roundw
                  case rel => exact ⟨i + 1, pre ++ [r], by omega, by go_num, by rw [HE1.out], hO1, by simpa using HWT.out, by rw [List.length_append]; simp; omega, Below.trans hBr hBrow⟩
                  case measure => simp [intOf]; omega
                | false =>
                  have HWT := Lib.hid hws
                  clear hws
                  go_wp2_with fail
                  go_roundw
                  case rel => exact ⟨i + 1, pre, by omega, by go_num, by rw [HE1.out], hOr, by simpa using HWT.out, by omega, hBr⟩
                  case measure => simp [intOf]; omega
              · have t3 : ((k : Int) == (f : Int) - 1) = false := by rw [beq_eq_false_iff_ne]; omega
                rw [touched_no (by omega)] at hws
                have HWT := Lib.hid hws
                clear hws
                go_wp2_with (at_builtin; refine app_T2 rfl 121 126 rfl B2 u18 _ rfl (hOr.ext (Ext.alloc _ _)) wr.heap.size r rfl ((World.cell?_alloc_new _ _ _ _).trans rfl) hlen (hbase _) ?_; intro v1 wb hO1 hg1 hn1)
                have hOx := hOr.ext (Ext.alloc wr (.cells #[.string ⟨r.toArray⟩] 9))
                have hBrow : Below B2 wr wb := Below.trans ((Ext.alloc wr (.cells #[.string ⟨r.toArray⟩] 9)).below.mono hB2s) (below_row hg1 (hbase _) (fun g hg => (OwnT.lt hOx g hg).1))
                go_roundw
                case rel => exact ⟨i + 1, pre ++ [r], by omega, by go_num, by rw [HE1.out], hO1, by simpa using HWT.out, by rw [List.length_append]; simp; omega, Below.trans hBr hBrow⟩
                case measure => simp [intOf]; omega
          · have him : i = m := by omega
            have hw := wantsTo_end (him ▸ hwt) hmx
            have hEr : Ext W wr := by rw [HB2.out] at hBr; exact hBr
            have hfin := HL.out
            rw [HSAME.out, hw] at hfin
            have hTr := hTW.ext hEr
            have hr6 : 6 ≤ wr.heap.size := by have := hTr.sz; omega
            have hWr : Below w.heap.size w wr := Below.trans hBW (hEr.below.mono (by omega))
            have hNr : w.heap.size ≤ wr.heap.size := by have := hEr.sz; omega
            obtain ⟨Aw, cw, rfl, hRw⟩ := OwnT.form hOr
            have tend : decide ((i : Int) < (m : Int)) = false := by simp; omega
            have hOle : O.length ≤ 400 := by omega
            have hcnt := recs_count _ (norm O) (Nat.le_refl _)
            have hno := norm_len O
            have HW := Lib.hid hw
            have hpl2 : pre.length ≤ 5 := by omega
            clear hw hwt
            go_wp2_with fail
            refine (new_p wr).mono ?_
            rintro e wa ⟨rfl, hDa, hEa⟩
            obtain ⟨bo, hbo⟩ : ∃ bo, bo = wr.heap.size := ⟨_, rfl⟩
            rw [← hbo] at hDa ⊢
            have hbl : bo < wa.heap.size := hDa.lt
            have G1 := write_p bo Dk.new O wa hDa new_ok (by show 0 + O.length < _; omega)
            rw [write_qz, HOV.out] at G1
            have HG1 := Lib.hid G1
            have HBO := Lib.hid hbo
            clear G1 hbo
            go_wp2_with fail
            refine HG1.out.mono ?_
            rintro e wb ⟨rfl, hDb, hgb⟩
            have G2 := sync_p bo _ wb hDb (fresh_ok O (by omega))
            rw [sync_qz] at G2
            have HG2 := Lib.hid G2
            clear G2 HG1
            go_wp2_with fail
            refine HG2.out.mono ?_
            rintro e wc2 ⟨rfl, hDc, hgc⟩
            have K1 : KB [bo] wa wc2 := (KB.grown hgb (by simp)).trans (KB.grown hgc (by simp))
            have hEc : Ext wr wc2 := Below.trans hEa (K1.below (by have := hEa.sz; omega) (by have := HBO.out; intro x hx; simp at hx; omega))
            have hTc := hTr.ext hEc
            have hb6o : 6 ≤ bo := by have := HBO.out; omega
            have OP := openPS hDc (qz_ok O (by omega)) (by show O.length < _; omega) hTc hb6o (open_qz O) rfl
            obtain ⟨G, hG⟩ : ∃ G, recs (qz (norm O)).text = G := ⟨_, rfl⟩
            rw [hG] at OP
            rw [show recs (norm O) = G from hG] at hfin hcnt
            have HOP := Lib.hid OP
            clear OP HG2 hG hDa hDb
            go_wp2_with fail
            refine HOP.out.mono ?_
            rintro e wd ⟨g2, Av2, cv2, rfl, hg2, P2, hO2, K2⟩
            clear HOP
            obtain ⟨_, _, eq3, hRg⟩ := OwnT.form hO2
            simp only [Value.slice.injEq, true_and] at eq3
            obtain ⟨rfl, rfl⟩ := eq3
            have hEd : Ext wr wd := Below.trans hEc (K2.below (by have := hEc.sz; omega) (by have := HBO.out; intro x hx; simp at hx; omega))
            have hRd := hRw.ext hEd
            have hWd : Below w.heap.size w wd := Below.trans hWr (hEd.below.mono hNr)
            have hNd : w.heap.size ≤ wd.heap.size := by have := hEd.sz; omega
            have hGl : G.length < 1000 := by omega
            rcases hfin with hq | ⟨hq, hlt2⟩
            · have hqd : decide (G = pre) = true := decide_eq_true hq
              have HQD := Lib.hid hqd
              clear hq hqd
              go_wp2_with fail
              refine (same_T Av2 Aw G.length pre.length cv2 cw G pre wd hRg hRd (by omega) (by omega)).mono ?_
              rintro e we ⟨rfl, hEe⟩
              rw [HQD.out]
              go_wp2_with fail
              go_ret
              exact ⟨rfl, Below.trans hWd (hEe.below.mono hNd)⟩
            · have hne : decide (G = pre) = false := decide_eq_false (fun e => by rw [e] at hlt2; omega)
              have hql : (recs O).length = G.length := by rw [hq]
              have tgt : decide ((pre.length : Int) < (G.length : Int)) = true := by simp; omega
              have HQ := Lib.hid hq
              have HQL := Lib.hid hql
              have HNE := Lib.hid hne
              clear hq hql hne
              go_wp2_with fail
              refine (same_T Av2 Aw G.length pre.length cv2 cw G pre wd hRg hRd (by omega) (by omega)).mono ?_
              rintro e we ⟨rfl, hEe⟩
              rw [HNE.out]
              have RR := recordsR_any O (by omega) we
              rw [HOV.out, ← HQ.out] at RR
              have HRR := Lib.hid RR
              clear RR
              go_wp2_with fail
              refine HRR.out.mono ?_
              rintro e wf ⟨v4, rfl, hO4, hE4⟩
              obtain ⟨A4, c4, rfl, hR4⟩ := OwnT.form hO4
              go_wp2_with fail
              refine (same_T Av2 A4 G.length G.length cv2 c4 G G wf ((hRg.ext hEe).ext hE4) hR4 (by omega) (by omega)).mono ?_
              rintro e wg ⟨rfl, hEg⟩
              rw [decide_eq_true (rfl : G = G)]
              go_wp2_with fail
              go_ret
              exact ⟨rfl, Below.trans hWd (Below.mono (Ext.trans (Ext.trans hEe hE4) hEg) hNd)⟩
end Go.Proofs.YthppcmejffdicaaGreatDoor
