/- The contract of expr.typed (printed by gen_et.py). -/
import Derived.Test.YtmiencglfhpmeaaGreatDoorMQXf
set_option linter.unusedSimpArgs false
set_option linter.unusedVariables false
namespace Go.Proofs.YtmiencglfhpmeaaGreatDoor
open Go.RowKit Hach
theorem rule_log {op var : Int} {x : Vl} {ts : List Int} (h : op = 3 ∧ ts.length = 1 ∨ (op = 4 ∨ op = 5) ∧ ts.length = 2) : rule op var x ts = if ts.all (· == 2) = true then 2 else 0 := by
 rcases h with ⟨rfl, h⟩ | ⟨rfl | rfl, h⟩
 ·obtain ⟨a, rfl⟩ := List.length_eq_one_iff.1 h
  simp [rule]
 all_goals
  obtain ⟨a, b, rfl⟩ := len2 h
  simp [rule]
theorem rule_less {var : Int} {x : Vl} {ts : List Int} (h : ts.length = 2) : rule 7 var x ts = if ts.all (· == 1) = true then 2 else 0 := by
 obtain ⟨a, b, rfl⟩ := len2 h
 simp [rule]
theorem rule_sum {op var : Int} {x : Vl} {ts : List Int} (ho : 8 ≤ op ∧ op ≤ 12) (h : ts.length = 2) : rule op var x ts = if ts.all (· == 1) = true then 1 else 0 := by
 obtain ⟨a, b, rfl⟩ := len2 h
 unfold rule
 rw [if_neg (by omega), if_neg (by omega), if_neg (by omega), if_neg (by omega), if_neg (by omega), if_neg (by omega), if_neg (by omega)]
 simp
set_option maxRecDepth 100000 in
set_option maxHeartbeats 8000000 in
theorem typed_any (d : Nat) : ∀ (e : Ex) (A : Option Addr) (c : Nat) (w : World), ExB w w.heap.size d A e.l → e.size < 1099511627776 → e.ok →
  Calls Tryz.prog 95 #[.agg (e.cells A c).toArray] w fun r w' => r = .returned (.int .i64 e.typed) ∧ Ext w w' := by
 induction d using Nat.strongRecOn with
 | _ d ih =>
  intro e A c w hX hsz hok
  have HOK := Lib.hid hok
  have HSZ := Lib.hid hsz
  have hse := e.size_eq
  have hll := Ex.len_le e.l
  have hlen : e.l.length < 1099511627776 := by omega
  have HTY := Lib.hid e.typed_eq
  have HSE := Lib.hid hse
  have hBx := Box.new w e A c 47
  obtain ⟨w0, hw0⟩ : ∃ w0, w.alloc (.cells (e.cells A c).toArray 47) = w0 := ⟨_, rfl⟩
  have hE0 : Ext w w0 := by rw [← hw0]; exact Ext.alloc _ _
  rw [hw0] at hBx
  have HW := Lib.hid hw0
  have hlt0 := hBx.lt
  have HBx := Lib.hid hBx
  have y0 := hBx.c0
  have y1 := hBx.c1
  have y2 := hBx.c2
  have y3 := hBx.c3
  have y4 := hBx.c4
  have y5 := hBx.c5
  have y6 := hBx.c6
  unfold Ex.cells
  unfold Ex.cells at HW
  clear hse hw0 hBx hok hsz
  go_enter Tryz.func95, Tryz.ntmps95
  go_upto_region 1 with fail
  rw [HW.out]
  go_wp2_with fail
  refine (class_any e.op _).mono ?_
  rintro r w' ⟨rfl, rfl⟩
  obtain ⟨K, hK⟩ : ∃ K, kindOf e.op = K := ⟨_, rfl⟩
  rw [hK]
  have HK := Lib.hid hK
  clear hK
  go_upto_region 2 with fail
  go_cut [41] from 10 (fun gv wx => gv = .bool (!good e.op e.var e.vl e.l.length) ∧ wx = w')
  case first =>
   have hv : ∀ w, (binOp .neq 44 (.agg #[.int .i64 e.ty, .int .i64 e.n, .bool e.b, .string ⟨e.s.toArray⟩]) (.agg #[.int .i64 0, .int .i64 0, .bool false, .string ⟨([] : List UInt8).toArray⟩])).run Tryz.prog w = .ok (.bool (!(valB e.ty e.n e.b e.s 0 0 false []))) w := fun w => val_neq ..
   by_cases h1 : manyOf e.op = (e.l.length : Int)
   ·have t1 : (manyOf e.op != (e.l.length : Int)) = false := by simpa using h1
    by_cases h2 : e.op = 1
    ·have t2 : (e.op != 1) = false := by simpa using h2
     have t4 : (e.op != 2) = true := by simp [h2]
     by_cases h5 : e.var = 0
     ·have t5 : (e.var != 0) = false := by simpa using h5
      have HG : Hid (good e.op e.var e.vl e.l.length = true) := Lib.hid (by unfold good; rw [decide_eq_true h1, decide_eq_true h2, decide_eq_true h5]; simp)
      clear h1 h2 h5
      go_wp2_with fail
      go_meet
      case rel => exact ⟨by rw [HG.out]; rfl, rfl⟩
     ·have t5 : (e.var != 0) = true := by simpa using h5
      have HG : Hid (good e.op e.var e.vl e.l.length = false) := Lib.hid (by unfold good; rw [decide_eq_false h5, decide_eq_false (show ¬ e.op = 2 by omega)]; simp)
      clear h1 h2 h5
      go_wp2_with fail
      go_meet
      case rel => exact ⟨by rw [HG.out]; rfl, rfl⟩
    ·have t2 : (e.op != 1) = true := by simpa using h2
     have hvl : Vl.eq e.vl ⟨0, 0, false, []⟩ = valB e.ty e.n e.b e.s 0 0 false [] := rfl
     cases hvb : valB e.ty e.n e.b e.s 0 0 false [] with
     | false =>
      rw [hvb] at hv
      have HG : Hid (good e.op e.var e.vl e.l.length = false) := Lib.hid (by unfold good; rw [hvl, hvb, decide_eq_false h2]; simp)
      clear h1 h2 hvl hvb
      go_wp2_with fail
      go_meet
      case rel => exact ⟨by rw [HG.out]; rfl, rfl⟩
     | true =>
      rw [hvb] at hv
      by_cases h4 : e.op = 2
      ·have t4 : (e.op != 2) = false := by simpa using h4
       have HG : Hid (good e.op e.var e.vl e.l.length = true) := Lib.hid (by unfold good; rw [hvl, hvb, decide_eq_true h1, decide_eq_true h4]; simp)
       clear h1 h2 h4 hvl hvb
       go_wp2_with fail
       go_meet
       case rel => exact ⟨by rw [HG.out]; rfl, rfl⟩
      ·have t4 : (e.op != 2) = true := by simpa using h4
       by_cases h5 : e.var = 0
       ·have t5 : (e.var != 0) = false := by simpa using h5
        have HG : Hid (good e.op e.var e.vl e.l.length = true) := Lib.hid (by unfold good; rw [hvl, hvb, decide_eq_true h1, decide_eq_true h5]; simp)
        clear h1 h2 h4 h5 hvl hvb
        go_wp2_with fail
        go_meet
        case rel => exact ⟨by rw [HG.out]; rfl, rfl⟩
       ·have t5 : (e.var != 0) = true := by simpa using h5
        have HG : Hid (good e.op e.var e.vl e.l.length = false) := Lib.hid (by unfold good; rw [decide_eq_false h4, decide_eq_false h5]; simp)
        clear h1 h2 h4 h5 hvl hvb
        go_wp2_with fail
        go_meet
        case rel => exact ⟨by rw [HG.out]; rfl, rfl⟩
   ·have t1 : (manyOf e.op != (e.l.length : Int)) = true := by simpa using h1
    have HG : Hid (good e.op e.var e.vl e.l.length = false) := Lib.hid (by simp [good, h1])
    clear h1
    go_wp2_with fail
    go_meet
    case rel => exact ⟨by rw [HG.out]; rfl, rfl⟩
  case rest =>
   obtain ⟨rfl, rfl⟩ := hcut
   cases hg : good e.op e.var e.vl e.l.length with
   | false =>
    have HT : Hid (e.typed = 0) := Lib.hid (by rw [HTY.out, hg]; rfl)
    clear hg ih hX
    rw [Bool.not_false]
    go_wp2_with fail
    go_ret
    exact ⟨by rw [HT.out]; rfl, hE0⟩
   | true =>
    have HG := Lib.hid hg
    clear hg
    rw [Bool.not_true]
    go_wp2_with fail
    go_loopw [45] (fun kv wr => ∃ k : Nat, k ≤ e.l.length ∧ kv = .int .i64 k ∧ (∃ v, VarAt 22 wr wc.heap.size v ∧ OwnC 3 wr (wc.heap.size + 1) v (((Ex.typeds e.l).take k).map iv)) ∧ Hid (¬ (0 : Int) ∈ (Ex.typeds e.l).take k) ∧ Ext wc wr ∧ wc.heap.size + 1 ≤ wr.heap.size) (fun kv _ => e.l.length - (intOf kv).toNat)
    case atStart => exact ⟨0, Nat.zero_le _, rfl, ⟨_, VarAt.new _ _ _, OwnC.nil _ _ _⟩, Lib.hid (by simp), Ext.alloc _ _, by simp⟩
    case round =>
     obtain ⟨k, hk, rfl, ⟨v, hV, hO⟩, HNZ, hE, hzs⟩ := hrel
     have htl : (Ex.typeds e.l).length = e.l.length := by rw [Ex.typeds_map]; simp
     by_cases hlt : k < e.l.length
     ·obtain ⟨b, o, A', c', d', hd, rfl, hb, hX', hOne⟩ := hX.at_ hlt
      have ihx := ih d' (by omega)
      have hokx := HOK.out.at_ hlt
      have hEa : Ext w wr := hE0.trans hE
      obtain ⟨r0, r1, r2, r3, r4, r5, r6⟩ := hOne.ext hb hEa
      have hXr := hX'.ext hEa
      have hsx : (e.l[k]).size < 1099511627776 := by have h2 := Ex.size_mem (List.getElem_mem hlt); have := HSZ.out; have := e.kids_lt; omega
      have htk : (Ex.typeds e.l).take (k + 1) = (Ex.typeds e.l).take k ++ [(e.l[k]).typed] := by
       rw [List.take_succ_eq_append_getElem (by omega)]
       congr 2
       simp [Ex.typeds_map]
      have hmem : (e.l[k]).typed = 0 → e.typed = 0 := fun h0 => by
       rw [HTY.out, HG.out, if_pos rfl, if_pos (by rw [Ex.typeds_map]; exact List.mem_map.2 ⟨_, List.getElem_mem hlt, h0⟩)]
      have tk : decide (k < e.l.length) = true := by simp; omega
      have HD := Lib.hid hd
      have hus : ((((Ex.typeds e.l).take k).map iv)).length < 4294967296 := by rw [List.length_map, List.length_take]; have := e.size_eq; have := (good_len HG.out).2; omega
      obtain ⟨us, hus2⟩ : ∃ us, ((Ex.typeds e.l).take k).map iv = us := ⟨_, rfl⟩
      rw [hus2] at hO hus
      have HUS := Lib.hid hus2
      clear hus2
      obtain ⟨A0, c0, hv0, hf0⟩ := hO.form
      subst hv0
      obtain ⟨hcL, hfL⟩ := hV.cell
      clear hOne hX' hX hd hf0
      generalize e.l[k] = x at *
      obtain ⟨T, hT0⟩ : ∃ T, x.typed = T := ⟨_, rfl⟩
      have IH0 := fun (W : World) (h : Ext wr W) => ihx x A' c' W (hXr.ext h) hsx hokx
      rw [hT0] at IH0 hmem htk
      simp only [Ex.cells] at IH0
      have IH := Lib.hid IH0
      have HTK := Lib.hid htk
      clear IH0 hT0 ihx hsx hokx htk
      go_wp2_with fail
      refine (IH.out _ (Ext.alloc _ _)).mono ?_
      rintro r' w1 ⟨rfl, hEt⟩
      by_cases hT : T = 0
      ·have HT : Hid (e.typed = 0) := Lib.hid (hmem hT)
       have t1 : (T == 0) = true := by simp [hT]
       clear hmem hT
       go_wp2_with fail
       go_ret
       exact ⟨by rw [HT.out]; rfl, ((hE0.trans hE).trans (Ext.alloc _ _)).trans hEt⟩
      ·have t1 : (T == 0) = false := by simpa using hT
       have hE1 : Ext wr w1 := (Ext.alloc _ _).trans hEt
       have hV1 := hV.ext hE1
       have hO1 := hO.ext hE1
       obtain ⟨hcL1, hfL1⟩ := hV1.cell
       have HNZ2 : Hid (¬ (0 : Int) ∈ (Ex.typeds e.l).take (k + 1)) := Lib.hid (by
        rw [HTK.out, List.mem_append]
        rintro (h | h)
        ·exact HNZ.out h
        ·simp at h; exact hT h.symm)
       have hbase : wc.heap.size + 1 ≤ w1.heap.size := by have := hE1.sz; omega
       have HCG := Lib.hid (show (w1.alloc (.cells #[.int .i64 T] 3)).cell? ⟨w1.heap.size, 0, none⟩ = some (.int .i64 T) by rw [World.cell?_alloc_new]; rfl)
       have hEa1 : Ext w1 (w1.alloc (.cells #[.int .i64 T] 3)) := Ext.alloc _ _
       have hVa := hV1.ext hEa1
       have hOa := hO1.ext hEa1
       have hne : some wc.heap.size ≠ (Value.slice A0 us.length c0).ownBlock := fun e => by have := (hO.lt _ e.symm).1; omega
       have hba : wc.heap.size + 1 ≤ (w1.alloc (.cells #[.int .i64 T] 3)).heap.size := by have := hEa1.sz; omega
       have HNE := Lib.hid hne
       clear hmem hT r0 r1 r2 r3 r4 r5 r6 y0 y1 y2 y3 y4 y5 y6 hcL hfL hne
       go_wp2_with (at_builtin; refine app_C ctyI rfl 53 55 rfl (wc.heap.size + 1) (.slice A0 us.length c0) us rfl hOa w1.heap.size (.int .i64 T) rfl HCG.out rfl hus hba ?_; intro v1 wb hO2 hg2; obtain ⟨A1, c1, hv1, hf1⟩ := hO2.form; subst hv1; clear hf1; obtain ⟨hcb, hfb⟩ := (hVa.own hg2 HNE.out).cell)
       obtain ⟨s1, s2, s3, s4⟩ := vrow_step hVa hOa (Nat.lt_succ_self _) hba hg2 hO2
       have hln : (us ++ [(Value.int .i64 T)]).length = us.length + 1 := by simp
       rw [hln] at s1 s2 s3 s4
       go_roundw
       case rel => exact ⟨k + 1, by omega, by go_num, ⟨_, s1, by rw [HTK.out, List.map_append, HUS.out]; exact s2⟩, HNZ2, Below.trans ((hE.trans hE1).trans hEa1) s4, s3⟩
       case measure => simp [intOf]; omega
     ·obtain rfl : k = e.l.length := by omega
      rw [List.take_of_length_le (by omega)] at hO HNZ
      have hEr : Ext w wr := hE0.trans hE
      have y0 := (hE.old (p := ⟨w.heap.size, 0, none⟩) hlt0).trans y0
      have y1 := (hE.old (p := ⟨w.heap.size, 1, none⟩) hlt0).trans y1
      have y2 := (hE.old (p := ⟨w.heap.size, 2, none⟩) hlt0).trans y2
      have y3 := (hE.old (p := ⟨w.heap.size, 3, none⟩) hlt0).trans y3
      have y4 := (hE.old (p := ⟨w.heap.size, 4, none⟩) hlt0).trans y4
      have y5 := (hE.old (p := ⟨w.heap.size, 5, none⟩) hlt0).trans y5
      obtain ⟨A1, c1, hv1, hR⟩ := hO.form
      rw [List.length_map] at hv1
      subst hv1
      obtain ⟨hcL, _⟩ := hV.cell
      have hLs : wc.heap.size < wr.heap.size := by omega
      have HT : Hid (e.typed = rule e.op e.var e.vl (Ex.typeds e.l)) := Lib.hid (by rw [HTY.out, HG.out, if_pos rfl, if_neg HNZ.out])
      have hop : 1 ≤ e.op ∧ e.op ≤ 13 := by
       have := (good_len HG.out).1
       unfold manyOf at this
       omega
      have HM := Lib.hid (good_len HG.out).1
      have ht3 : (Ex.typeds e.l).length < 4294967296 := by have := (good_len HG.out).2; omega
      have tk : decide (e.l.length < e.l.length) = false := by simp
      clear ih hX hO HTY HG
      generalize Ex.typeds e.l = ts at *
      by_cases hlog : e.op = 3 ∨ e.op = 4 ∨ e.op = 5
      ·rcases hlog with h6 | h6 | h6
       ·have hl1 : ts.length = 1 := by have := HM.out; rw [h6] at this; have h3 : manyOf 3 = 1 := rfl; omega
        obtain rfl : K = 1 := by rw [← HK.out, h6]; rfl
        obtain ⟨q, hq⟩ : ∃ q, ts.all (· == 2) = q := ⟨_, rfl⟩
        have AC : ∀ W, Ext wr W → Calls Tryz.prog 116 #[.int .i64 2, .pointer (some ⟨wc.heap.size, 0, none⟩)] W fun r w' => r = .returned (.bool q) ∧ Ext W w' := fun W h => by
         rw [← hq]
         exact allC_any ts 2 A1 c1 wc.heap.size W (by have := h.sz; omega) ((h.old (p := ⟨wc.heap.size, 0, none⟩) hLs).trans hcL) (hR.ext (Nat.le_refl _) h) ht3
        have HT2 : Hid (e.typed = if q = true then 2 else 0) := Lib.hid (by rw [HT.out, ← hq, h6]; exact rule_log (.inl ⟨rfl, hl1⟩))
        have HAC := Lib.hid AC
        rw [h6] at y0
        clear AC hq hR HT HM h6
        cases q with
        | true =>
         go_wp2_with fail
         refine (HAC.out _ (Ext.refl _)).mono ?_
         rintro r w1 ⟨rfl, hE2⟩
         go_wp2_with fail
         go_ret
         exact ⟨by rw [HT2.out]; rfl, hEr.trans hE2⟩
        | false =>
         go_wp2_with fail
         refine (HAC.out _ (Ext.refl _)).mono ?_
         rintro r w1 ⟨rfl, hE2⟩
         go_wp2_with fail
         go_quiet (fail)
         go_wp2_with fail
         go_quiet (fail)
         go_wp2_with fail
         go_ret
         exact ⟨by rw [HT2.out]; rfl, (hEr.trans hE2).trans ((ext_dn _ _).trans (ext_dn _ _))⟩
       ·have hl1 : ts.length = 2 := by have := HM.out; rw [h6] at this; have h3 : manyOf 4 = 2 := rfl; omega
        obtain rfl : K = 1 := by rw [← HK.out, h6]; rfl
        obtain ⟨q, hq⟩ : ∃ q, ts.all (· == 2) = q := ⟨_, rfl⟩
        have AC : ∀ W, Ext wr W → Calls Tryz.prog 116 #[.int .i64 2, .pointer (some ⟨wc.heap.size, 0, none⟩)] W fun r w' => r = .returned (.bool q) ∧ Ext W w' := fun W h => by
         rw [← hq]
         exact allC_any ts 2 A1 c1 wc.heap.size W (by have := h.sz; omega) ((h.old (p := ⟨wc.heap.size, 0, none⟩) hLs).trans hcL) (hR.ext (Nat.le_refl _) h) ht3
        have HT2 : Hid (e.typed = if q = true then 2 else 0) := Lib.hid (by rw [HT.out, ← hq, h6]; exact rule_log (.inr ⟨.inl rfl, hl1⟩))
        have HAC := Lib.hid AC
        rw [h6] at y0
        clear AC hq hR HT HM h6
        cases q with
        | true =>
         go_wp2_with fail
         refine (HAC.out _ (Ext.refl _)).mono ?_
         rintro r w1 ⟨rfl, hE2⟩
         go_wp2_with fail
         go_ret
         exact ⟨by rw [HT2.out]; rfl, hEr.trans hE2⟩
        | false =>
         go_wp2_with fail
         refine (HAC.out _ (Ext.refl _)).mono ?_
         rintro r w1 ⟨rfl, hE2⟩
         go_wp2_with fail
         go_quiet (fail)
         go_wp2_with fail
         go_quiet (fail)
         go_wp2_with fail
         go_ret
         exact ⟨by rw [HT2.out]; rfl, (hEr.trans hE2).trans ((ext_dn _ _).trans (ext_dn _ _))⟩
       ·have hl1 : ts.length = 2 := by have := HM.out; rw [h6] at this; have h3 : manyOf 5 = 2 := rfl; omega
        obtain rfl : K = 1 := by rw [← HK.out, h6]; rfl
        obtain ⟨q, hq⟩ : ∃ q, ts.all (· == 2) = q := ⟨_, rfl⟩
        have AC : ∀ W, Ext wr W → Calls Tryz.prog 116 #[.int .i64 2, .pointer (some ⟨wc.heap.size, 0, none⟩)] W fun r w' => r = .returned (.bool q) ∧ Ext W w' := fun W h => by
         rw [← hq]
         exact allC_any ts 2 A1 c1 wc.heap.size W (by have := h.sz; omega) ((h.old (p := ⟨wc.heap.size, 0, none⟩) hLs).trans hcL) (hR.ext (Nat.le_refl _) h) ht3
        have HT2 : Hid (e.typed = if q = true then 2 else 0) := Lib.hid (by rw [HT.out, ← hq, h6]; exact rule_log (.inr ⟨.inr rfl, hl1⟩))
        have HAC := Lib.hid AC
        rw [h6] at y0
        clear AC hq hR HT HM h6
        cases q with
        | true =>
         go_wp2_with fail
         refine (HAC.out _ (Ext.refl _)).mono ?_
         rintro r w1 ⟨rfl, hE2⟩
         go_wp2_with fail
         go_ret
         exact ⟨by rw [HT2.out]; rfl, hEr.trans hE2⟩
        | false =>
         go_wp2_with fail
         refine (HAC.out _ (Ext.refl _)).mono ?_
         rintro r w1 ⟨rfl, hE2⟩
         go_wp2_with fail
         go_quiet (fail)
         go_wp2_with fail
         go_quiet (fail)
         go_wp2_with fail
         go_ret
         exact ⟨by rw [HT2.out]; rfl, (hEr.trans hE2).trans ((ext_dn _ _).trans (ext_dn _ _))⟩
      ·by_cases h6 : e.op = 6
       ·have hl1 : ts.length = 2 := by have := HM.out; rw [h6] at this; have h3 : manyOf 6 = 2 := rfl; omega
        obtain rfl : K = 2 := by rw [← HK.out, h6]; rfl
        obtain ⟨bb, hA1, hbb, hcell⟩ := hR (by intro e0; rw [List.map_eq_nil_iff] at e0; rw [e0] at hl1; simp at hl1)
        subst hA1
        obtain ⟨T0, T1, rfl⟩ := len2 hl1
        have z0 := hcell 0 _ rfl
        have z1 := hcell 1 _ rfl
        unfold iv at z0 z1
        rw [h6] at y0 HT
        clear hcell hR HM h6 hV
        by_cases q : T0 = T1
        ·have tq : (T0 == T1) = true := by simp [q]
         have HT2 : Hid (e.typed = 2) := Lib.hid (by rw [HT.out]; simp [rule, q])
         clear q HT
         go_wp2_with fail
         go_quiet (fail)
         go_wp2_with fail
         go_ret
         exact ⟨by rw [HT2.out]; rfl, hEr.trans (ext_dn _ _)⟩
        ·have tq : (T0 == T1) = false := by simpa using q
         have HT2 : Hid (e.typed = 0) := Lib.hid (by rw [HT.out]; simp [rule, q])
         clear q HT
         go_wp2_with fail
         go_quiet (fail)
         go_wp2_with fail
         go_quiet (fail)
         go_wp2_with fail
         go_ret
         exact ⟨by rw [HT2.out]; rfl, (by first | exact hEr.trans (ext_dn _ _) | exact hEr.trans ((ext_dn _ _).trans (ext_dn _ _)))⟩
       ·by_cases h67 : e.op = 7
        ·have h6 := h67
         have hl1 : ts.length = 2 := by have := HM.out; rw [h6] at this; have h3 : manyOf 7 = 2 := rfl; omega
         obtain rfl : K = 3 := by rw [← HK.out, h6]; rfl
         obtain ⟨q, hq⟩ : ∃ q, ts.all (· == 1) = q := ⟨_, rfl⟩
         have AC : ∀ W, Ext wr W → Calls Tryz.prog 116 #[.int .i64 1, .pointer (some ⟨wc.heap.size, 0, none⟩)] W fun r w' => r = .returned (.bool q) ∧ Ext W w' := fun W h => by
          rw [← hq]
          exact allC_any ts 1 A1 c1 wc.heap.size W (by have := h.sz; omega) ((h.old (p := ⟨wc.heap.size, 0, none⟩) hLs).trans hcL) (hR.ext (Nat.le_refl _) h) ht3
         have HT2 : Hid (e.typed = if q = true then 2 else 0) := Lib.hid (by rw [HT.out, ← hq, h6]; exact rule_less hl1)
         have HAC := Lib.hid AC
         rw [h6] at y0
         clear AC hq hR HT HM h6
         cases q with
         | true =>
          go_wp2_with fail
          go_quiet (fail)
          go_wp2_with fail
          refine (HAC.out _ (ext_dn _ _)).mono ?_
          rintro r w1 ⟨rfl, hE2⟩
          go_wp2_with fail
          go_ret
          exact ⟨by rw [HT2.out]; rfl, (hEr.trans (ext_dn _ _)).trans hE2⟩
         | false =>
          go_wp2_with fail
          go_quiet (fail)
          go_wp2_with fail
          refine (HAC.out _ (ext_dn _ _)).mono ?_
          rintro r w1 ⟨rfl, hE2⟩
          go_wp2_with fail
          go_quiet (fail)
          go_wp2_with fail
          go_ret
          exact ⟨by rw [HT2.out]; rfl, ((hEr.trans (ext_dn _ _)).trans hE2).trans (ext_dn _ _)⟩
        ·by_cases h68 : 8 ≤ e.op ∧ e.op ≤ 12
         ·rcases (by omega : e.op = 8 ∨ e.op = 9 ∨ e.op = 10 ∨ e.op = 11 ∨ e.op = 12) with h6 | h6 | h6 | h6 | h6
          all_goals
           have hl1 : ts.length = 2 := by
            have := HM.out
            rw [h6] at this
            unfold manyOf at this
            omega
           obtain rfl : K = 4 := by rw [← HK.out, h6]; rfl
           obtain ⟨q, hq⟩ : ∃ q, ts.all (· == 1) = q := ⟨_, rfl⟩
           have AC : ∀ W, Ext wr W → Calls Tryz.prog 116 #[.int .i64 1, .pointer (some ⟨wc.heap.size, 0, none⟩)] W fun r w' => r = .returned (.bool q) ∧ Ext W w' := fun W h => by
            rw [← hq]
            exact allC_any ts 1 A1 c1 wc.heap.size W (by have := h.sz; omega) ((h.old (p := ⟨wc.heap.size, 0, none⟩) hLs).trans hcL) (hR.ext (Nat.le_refl _) h) ht3
           have HT2 : Hid (e.typed = if q = true then 1 else 0) := Lib.hid (by rw [HT.out, ← hq, h6]; exact rule_sum (by omega) hl1)
           have HAC := Lib.hid AC
           rw [h6] at y0
           clear AC hq hR HT HM h6
           cases q with
           | true =>
            go_wp2_with fail
            go_quiet (fail)
            go_wp2_with fail
            refine (HAC.out _ (ext_dn _ _)).mono ?_
            rintro r w1 ⟨rfl, hE2⟩
            go_wp2_with fail
            go_ret
            exact ⟨by rw [HT2.out]; rfl, (hEr.trans (ext_dn _ _)).trans hE2⟩
           | false =>
            go_wp2_with fail
            go_quiet (fail)
            go_wp2_with fail
            refine (HAC.out _ (ext_dn _ _)).mono ?_
            rintro r w1 ⟨rfl, hE2⟩
            go_wp2_with fail
            go_quiet (fail)
            go_wp2_with fail
            go_ret
            exact ⟨by rw [HT2.out]; rfl, ((hEr.trans (ext_dn _ _)).trans hE2).trans (ext_dn _ _)⟩
         ·by_cases h613 : e.op = 13
          ·have h6 := h613
           have hl1 : ts.length = 3 := by have := HM.out; rw [h6] at this; have h3 : manyOf 13 = 3 := rfl; omega
           obtain rfl : K = 5 := by rw [← HK.out, h6]; rfl
           obtain ⟨bb, hA1, hbb, hcell⟩ := hR (by intro e0; rw [List.map_eq_nil_iff] at e0; rw [e0] at hl1; simp at hl1)
           subst hA1
           obtain ⟨T0, T1, T2, rfl⟩ := len3 hl1
           have z0 := hcell 0 _ rfl
           have z1 := hcell 1 _ rfl
           have z2 := hcell 2 _ rfl
           unfold iv at z0 z1 z2
           rw [h6] at y0 HT
           clear hcell hR HM h6 hV
           by_cases q0 : T0 = 2
           ·have tq0 : (T0 == 2) = true := by simp [q0]
            by_cases q : T1 = T2
            ·have tq : (T1 == T2) = true := by simp [q]
             have HT2 : Hid (e.typed = T1) := Lib.hid (by rw [HT.out]; simp [rule, q0, q])
             clear q q0 HT
             go_wp2_with fail
             go_quiet (fail)
             go_wp2_with fail
             go_quiet (fail)
             go_wp2_with fail
             go_ret
             exact ⟨by rw [HT2.out]; rfl, (by first | exact hEr.trans (ext_dn _ _) | exact hEr.trans ((ext_dn _ _).trans (ext_dn _ _)))⟩
            ·have tq : (T1 == T2) = false := by simpa using q
             have HT2 : Hid (e.typed = 0) := Lib.hid (by rw [HT.out]; simp [rule, q0, q])
             clear q q0 HT
             go_wp2_with fail
             go_quiet (fail)
             go_wp2_with fail
             go_quiet (fail)
             go_wp2_with fail
             go_ret
             exact ⟨by rw [HT2.out]; rfl, (by first | exact hEr.trans (ext_dn _ _) | exact hEr.trans ((ext_dn _ _).trans (ext_dn _ _)))⟩
           ·have tq0 : (T0 == 2) = false := by simpa using q0
            have HT2 : Hid (e.typed = 0) := Lib.hid (by rw [HT.out]; simp [rule, q0])
            clear q0 HT
            go_wp2_with fail
            go_quiet (fail)
            go_wp2_with fail
            go_quiet (fail)
            go_wp2_with fail
            go_ret
            exact ⟨by rw [HT2.out]; rfl, (by first | exact hEr.trans (ext_dn _ _) | exact hEr.trans ((ext_dn _ _).trans (ext_dn _ _)))⟩
          ·rcases (by omega : e.op = 1 ∨ e.op = 2) with h6 | h6
           ·rw [h6] at y0
            have HT2 : Hid (e.typed = (unw e.vl).vl.ty) := Lib.hid (by rw [HT.out, h6, unw_ty]; rfl)
            have hsl : e.vl.s.length < 9223372036854775808 := by
             have h1 := HOK.out.s
             show e.s.length < _
             omega
            have UW : ∀ W, Calls Tryz.prog 97 #[.agg #[.int .i64 e.ty, .int .i64 e.n, .bool e.b, .string ⟨e.s.toArray⟩]] W fun r w' => r = .returned (unw e.vl).v ∧ Ext W w' := fun W => unwrap_any e.vl hsl W
            have HUW := Lib.hid UW
            clear UW hsl HT HM h6 hR hV
            generalize unw e.vl = u at *
            go_wp2_with fail
            refine (HUW.out _).mono ?_
            rintro r w1 ⟨rfl, hE2⟩
            go_wp2_with fail
            refine (wrap_any u _).mono ?_
            rintro r w2 ⟨rfl, hE3⟩
            generalize u.vl = y at *
            unfold Vl.v
            go_wp2_with fail
            go_ret
            exact ⟨by rw [HT2.out]; rfl, (hEr.trans hE2).trans hE3⟩
           ·rw [h6] at y0
            have HT2 : Hid (e.typed = (En.zero.var e.var).vl.ty) := Lib.hid (by rw [HT.out, h6, zero_ty]; rfl)
            have VA : ∀ W, Calls Tryz.prog 96 #[.agg #[.int .i64 0, .string ⟨#[]⟩, .string ⟨#[]⟩, .int .i64 0, .int .i64 0, .bool false, .int .i64 0, .int .i64 0, .int .i64 0], .int .i64 e.var] W fun r w' => r = .returned (En.zero.var e.var).v ∧ Ext W w' := fun W => variable_any En.zero e.var W
            have HVA := Lib.hid VA
            clear VA HT HM h6 hR hV
            generalize En.zero.var e.var = u at *
            go_wp2_with fail
            refine (HVA.out _).mono ?_
            rintro r w1 ⟨rfl, hE2⟩
            go_wp2_with fail
            refine (wrap_any u _).mono ?_
            rintro r w2 ⟨rfl, hE3⟩
            generalize u.vl = y at *
            unfold Vl.v
            go_wp2_with fail
            go_ret
            exact ⟨by rw [HT2.out]; rfl, (hEr.trans hE2).trans hE3⟩
end Go.Proofs.YtmiencglfhpmeaaGreatDoor
