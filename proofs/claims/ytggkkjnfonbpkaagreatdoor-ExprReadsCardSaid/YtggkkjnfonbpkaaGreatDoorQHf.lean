/- The contract of the reference's constant. -/
import Derived.Test.YtggkkjnfonbpkaaGreatDoorQHe
import Derived.Test.YtggkkjnfonbpkaaGreatDoorQXo
import Derived.Test.YtggkkjnfonbpkaaGreatDoorQXl

set_option linter.unusedSimpArgs false
set_option linter.unusedVariables false
namespace Go.Proofs.YtggkkjnfonbpkaaGreatDoor
open Go.RowKit Hach

theorem fin_two {fn : Func} {s r : Tmp} (hr : fn.results = #[.cell s 29, .tmp r]) {blk : Nat} {wr : World} {Q : Ending → World → Prop} (x : Ex) (hz : Zero7 wr blk) (A : Option Addr) (n c : Nat) (hn : n = x.l.length) {tmps : Array Value} (ht : tmps.getD s undef = .pointer (some ⟨blk, 0, none⟩)) (v : Value) (hv : tmps.getD r undef = v)
    (hQ : Q (.returned (.tuple #[.agg (x.cells A c).toArray, v])) (set7 wr blk x (.slice A n c))) : bodyPost Tryz.prog fn Q Exit.ret ⟨tmps, []⟩ (set7 wr blk x (.slice A n c)) := by
  have hin := set7_in hz x (.slice A n c)
  obtain ⟨c0, c1, c2, c3, c4, c5, c6⟩ := hin.cells
  generalize set7 wr blk x (.slice A n c) = wf at *
  refine bodyPost_ret (v := .tuple #[.agg (x.cells A c).toArray, v]) ?_ rfl hQ
  subst hn
  rw [Array.getD_eq_getD_getElem?] at ht hv
  simp only [results, hr]
  go_simp
  rfl
def ConstR (t : Tok) (w : World) (e : Ending) (w' : World) : Prop := (∃ x : Ex, x.l = [] ∧ e = .returned (.tuple #[.agg (x.cells none 0).toArray, .bool (constOf t).isSome]) ∧ ∀ v, constOf t = some v → x = exCon v) ∧ Ext w w'
theorem set7_fresh {w wr : World} {blk : Nat} (hE : Ext w wr) (hb : w.heap.size ≤ blk) (x : Ex) (v : Value) : Ext w (set7 wr blk x v) :=
  Below.trans hE (below_row' (set7_grown wr blk x v) hE.sz (fun g e => by simp only [Option.some.injEq] at e; omega))
theorem const_some {fn : Func} {s r : Tmp} (hr : fn.results = #[.cell s 29, .tmp r]) {t : Tok} {w wr : World} {blk : Nat} (v : Vl) (h : constOf t = some v) (hz : Zero7 wr blk) (hE : Ext w wr) (hb : w.heap.size ≤ blk) {tmps : Array Value} (ht : tmps.getD s undef = .pointer (some ⟨blk, 0, none⟩)) (hv : tmps.getD r undef = .bool true) :
    bodyPost Tryz.prog fn (ConstR t w) Exit.ret ⟨tmps, []⟩ (set7 wr blk (.mk 1 0 v.ty v.n v.b v.s []) (.slice none 0 0)) := by
  refine fin_two hr _ hz none 0 0 rfl ht (.bool true) hv ⟨⟨exCon v, rfl, by rw [h]; rfl, fun u hu => by rw [h] at hu; rw [Option.some.inj hu]⟩, set7_fresh hE hb _ _⟩
theorem const_none {fn : Func} {s r : Tmp} (hr : fn.results = #[.cell s 29, .tmp r]) {t : Tok} {w wr : World} {blk : Nat} (h : constOf t = none) (hz : Zero7 wr blk) (hE : Ext w wr) (hb : w.heap.size ≤ blk) {tmps : Array Value} (ht : tmps.getD s undef = .pointer (some ⟨blk, 0, none⟩)) (hv : tmps.getD r undef = .bool false) :
    bodyPost Tryz.prog fn (ConstR t w) Exit.ret ⟨tmps, []⟩ (set7 wr blk zeroE (.slice none 0 0)) := by
  refine fin_two hr _ hz none 0 0 rfl ht (.bool false) hv ⟨⟨zeroE, rfl, by rw [h]; rfl, fun u hu => by rw [h] at hu; cases hu⟩, set7_fresh hE hb _ _⟩
/- the value of a numeral -/
def dvs (l : List UInt8) : Nat := l.foldl (fun n c => if c.toNat = 45 then n else 10 * n + (c.toNat - 48)) 0
theorem dvs_snoc (l : List UInt8) (c : UInt8) : dvs (l ++ [c]) = if c.toNat = 45 then dvs l else 10 * dvs l + (c.toNat - 48) := by unfold dvs; rw [List.foldl_append]; rfl
theorem dvs_digs : ∀ (l : List UInt8) (a : Nat), l.all isDig = true → l.foldl (fun n c => if c.toNat = 45 then n else 10 * n + (c.toNat - 48)) a = l.foldl (fun n c => 10 * n + (c.toNat - 48)) a
  | [], a, _ => rfl
  | c :: l, a, h => by
    rw [List.all_cons, Bool.and_eq_true] at h
    have h1 : ¬ c.toNat = 45 := by have := h.1; unfold isDig at this; simp only [Bool.and_eq_true, decide_eq_true_eq] at this; omega
    rw [List.foldl_cons, List.foldl_cons, if_neg h1, dvs_digs l _ h.2]
theorem dvs_num {l : List UInt8} (h : l.all isDig = true) : dvs l = dval l := dvs_digs l 0 h
theorem dvs_neg {l : List UInt8} (h : l.all isDig = true) : dvs (45 :: l) = dval l := by
  unfold dvs
  rw [List.foldl_cons, if_pos (by decide)]
  exact dvs_digs l 0 h
def DN (l : List UInt8) : Prop := ∀ c ∈ l, isDig c = true ∨ c.toNat = 45
theorem dvs_lt : ∀ (n : Nat) (l : List UInt8), l.length = n → DN l → dvs l < 10 ^ n
  | 0, l, h, _ => by obtain rfl := List.length_eq_zero_iff.1 h; decide
  | n + 1, l, h, hd => by
    have hne : l ≠ [] := by rintro rfl; simp at h
    have e := (List.dropLast_concat_getLast hne).symm
    have hl : l.dropLast.length = n := by rw [List.length_dropLast]; omega
    have h1 := dvs_lt n l.dropLast hl fun c hc => hd c (List.dropLast_subset l hc)
    have h2 := hd _ (List.getLast_mem hne)
    rw [e, dvs_snoc]
    rw [Nat.pow_succ]
    split
    · omega
    · have h3 := h2.resolve_right (by assumption)
      unfold isDig at h3
      simp only [Bool.and_eq_true, decide_eq_true_eq] at h3
      omega
theorem all_mem' {p : UInt8 → Bool} {l : List UInt8} (h : l.all p = true) : ∀ c ∈ l, p c = true := List.all_eq_true.1 h
theorem pow10_le {k : Nat} (h : k ≤ 11) : 10 ^ k ≤ 100000000000 := by
  have : (10 : Nat) ^ k ≤ 10 ^ 11 := Nat.pow_le_pow_right (by omega) h
  omega
set_option maxRecDepth 100000 in
set_option maxHeartbeats 8000000 in
theorem const_any (t : Tok) (ht : IsTok t) (hl : t.length ≤ 4096) (w : World) : Calls Tryz.prog 91 #[bs t] w (ConstR t w) := by
  have hz := Zero7.new w
  obtain ⟨w0, hw0⟩ : ∃ w0, w.alloc (.cells zero7 29) = w0 := ⟨_, rfl⟩
  have hE0 : Ext w w0 := by rw [← hw0]; exact Ext.alloc _ _
  have hs0 : w0.heap.size = w.heap.size + 1 := by rw [← hw0]; simp
  rw [hw0] at hz
  have HW := Lib.hid hw0
  have hs0' : w.heap.size + 1 ≤ w0.heap.size := by omega
  have hE1 : Ext w0 (w0.alloc (.cells #[.int .i64 1, .int .i64 0, .int .i64 0, .int .i64 0, .bool false, .string ⟨#[]⟩, .slice none 0 0] 29)) := Ext.alloc _ _
  have hz1 := hz.own (grown_of hE1 none) (by simp)
  have hI1 := InBlk.new w0 (.mk 1 0 0 0 false [] []) (.slice none 0 0)
  have hE01 := hE0.trans hE1
  obtain ⟨D, hD⟩ : ∃ D : ByteArray, ⟨t.toArray⟩ = D := ⟨_, rfl⟩
  have hqT := bs_list t [116, 114, 117, 101] D hD
  have hqF := bs_list t [102, 97, 108, 115, 101] D hD
  have HD := Lib.hid hD
  have hsz := toArr_size t
  rw [hD] at hsz
  unfold bs
  rw [hD]
  unfold zero7 at HW
  clear hw0 hs0 hD
  by_cases hT : t = [116, 114, 117, 101]
  · rw [decide_eq_true hT] at hqT
    have HC := Lib.hid (show constOf t = some ⟨2, 0, true, []⟩ by rw [hT]; rfl)
    clear hT hsz ht
    go_enter Tryz.func91, Tryz.ntmps91
    go_upto_region 1 with fail
    rw [HW.out]
    go_wp2_with fail
    refine (rBool_any _ _).mono ?_
    rintro e w4 ⟨rfl, hE4⟩
    have hI4 := hI1.ext hE4
    have hz4 := hz1.own (grown_of hE4 none) (by simp)
    obtain ⟨c0, c1, c2, c3, c4, c5, c6⟩ := con0_cells hI4
    obtain ⟨q0, q1, q2, q3, q4, q5, q6⟩ := hI4.freeAll
    go_upto_region 17 with fail
    show Code.wp _ _ _ _ (setV w4 w0.heap.size 2 0 true ⟨([] : List UInt8).toArray⟩)
    have hI5 := setV_in hI4 2 0 true []
    have hz5 := hz4.own (setV_grown w4 w0.heap.size 2 0 true ⟨([] : List UInt8).toArray⟩) (by simp; omega)
    have hE5 := ext_of_grown (hE01.trans hE4) (setV_grown w4 w0.heap.size 2 0 true ⟨([] : List UInt8).toArray⟩) (by omega)
    clear c0 c1 c2 c3 c4 c5 c6 q0 q1 q2 q3 q4 q5 q6
    generalize setV w4 w0.heap.size 2 0 true ⟨([] : List UInt8).toArray⟩ = w5 at *
    obtain ⟨c0, c1, c2, c3, c4, c5, c6⟩ := con_cells hI5
    obtain ⟨u0, u1, u2, u3, u4, u5, u6⟩ := hz5.cells
    obtain ⟨f0, f1, f2, f3, f4, f5, f6⟩ := hz5.free
    go_wp2_with fail
    exact const_some rfl ⟨2, 0, true, []⟩ HC.out hz5 hE5 (Nat.le_refl _) rfl rfl
  · rw [decide_eq_false hT] at hqT
    by_cases hF : t = [102, 97, 108, 115, 101]
    · rw [decide_eq_true hF] at hqF
      have HC := Lib.hid (show constOf t = some ⟨2, 0, false, []⟩ by rw [hF]; rfl)
      clear hT hF hsz ht
      go_enter Tryz.func91, Tryz.ntmps91
      go_upto_region 1 with fail
      rw [HW.out]
      go_wp2_with fail
      refine (rBool_any _ _).mono ?_
      rintro e w4 ⟨rfl, hE4⟩
      have hI4 := hI1.ext hE4
      have hz4 := hz1.own (grown_of hE4 none) (by simp)
      obtain ⟨c0, c1, c2, c3, c4, c5, c6⟩ := con0_cells hI4
      obtain ⟨q0, q1, q2, q3, q4, q5, q6⟩ := hI4.freeAll
      go_upto_region 17 with fail
      show Code.wp _ _ _ _ (setV w4 w0.heap.size 2 0 false ⟨([] : List UInt8).toArray⟩)
      have hI5 := setV_in hI4 2 0 false []
      have hz5 := hz4.own (setV_grown w4 w0.heap.size 2 0 false ⟨([] : List UInt8).toArray⟩) (by simp; omega)
      have hE5 := ext_of_grown (hE01.trans hE4) (setV_grown w4 w0.heap.size 2 0 false ⟨([] : List UInt8).toArray⟩) (by omega)
      clear c0 c1 c2 c3 c4 c5 c6 q0 q1 q2 q3 q4 q5 q6
      generalize setV w4 w0.heap.size 2 0 false ⟨([] : List UInt8).toArray⟩ = w5 at *
      obtain ⟨c0, c1, c2, c3, c4, c5, c6⟩ := con_cells hI5
      obtain ⟨u0, u1, u2, u3, u4, u5, u6⟩ := hz5.cells
      obtain ⟨f0, f1, f2, f3, f4, f5, f6⟩ := hz5.free
      go_wp2_with fail
      exact const_some rfl ⟨2, 0, false, []⟩ HC.out hz5 hE5 (Nat.le_refl _) rfl rfl
    · rw [decide_eq_false hF] at hqF
      have HCR := Lib.hid (const_rest hT hF)
      obtain ⟨m, hm⟩ : ∃ m, t.length = m := ⟨_, rfl⟩
      rw [hm] at hsz hl
      have HM := Lib.hid hm
      clear hT hF
      cases ht with
      | word c u hc hu =>
        have hm1 : 0 < m := by rw [← hm]; simp
        have hb := ba_get (c :: u) 0
        rw [HD.out] at hb
        simp only [List.getD_cons_zero] at hb
        have hc2 : c.toNat ≠ 34 ∧ isDig c = false ∧ c.toNat ≠ 45 ∧ c.toNat ≠ 48 := by
          unfold isLet at hc; simp only [Bool.and_eq_true, decide_eq_true_eq] at hc
          refine ⟨by omega, ?_, by omega, by omega⟩
          unfold isDig; rw [decide_eq_false (show ¬ c.toNat ≤ 57 by omega), Bool.and_false]
        have HC := Lib.hid (show constOf (c :: u) = none by rw [HCR.out, constR_cons, if_neg hc2.1, if_neg (by rw [hc2.2.1]; simp), if_neg (by rintro ⟨h, _⟩; exact hc2.2.2.1 h)])
        have t1 : ((c.toNat : Int) == 34) = false := by rw [beq_eq_false_iff_ne]; have := hc2.1; omega
        have t2 : ((c.toNat : Int) == 45) = false := by rw [beq_eq_false_iff_ne]; have := hc2.2.2.1; omega
        have CL := Lib.hid (fun W => cls_any c W)
        have t3 : ((clsN c : Int) == 48) = false := by rw [cls_dig]; exact hc2.2.1
        clear hc hu hc2 hm
        obtain ⟨u0, u1, u2, u3, u4, u5, u6⟩ := hz1.cells
        obtain ⟨f0, f1, f2, f3, f4, f5, f6⟩ := hz1.free
        go_enter Tryz.func91, Tryz.ntmps91
        go_upto_region 1 with fail
        rw [HW.out]
        go_wp2_with fail
        refine (CL.out _).mono ?_
        rintro e w4 ⟨rfl, rfl⟩
        go_wp2_with fail
        exact const_none rfl HC.out hz1 hE01 (Nat.le_refl _) rfl rfl
      | sign c hc =>
        obtain rfl : m = 1 := by rw [← hm]; rfl
        have hb := ba_get [c] 0
        rw [HD.out] at hb
        simp only [List.getD_cons_zero] at hb
        have hc2 : c.toNat ≠ 34 ∧ isDig c = false := by
          rcases hc with hc | hc
          · unfold isSg at hc; simp only [decide_eq_true_eq] at hc
            refine ⟨by omega, ?_⟩
            unfold isDig
            by_cases h1 : 48 ≤ c.toNat
            · rw [decide_eq_false (show ¬ c.toNat ≤ 57 by omega), Bool.and_false]
            · rw [decide_eq_false h1]; rfl
          · refine ⟨by omega, ?_⟩
            unfold isDig; rw [decide_eq_false (show ¬ 48 ≤ c.toNat by omega)]; rfl
        have HC := Lib.hid (show constOf [c] = none by rw [HCR.out, constR_cons, if_neg hc2.1, if_neg (by rw [hc2.2]; simp), if_neg (by simp)])
        have t1 : ((c.toNat : Int) == 34) = false := by rw [beq_eq_false_iff_ne]; have := hc2.1; omega
        have CL := Lib.hid (fun W => cls_any c W)
        have t3 : ((clsN c : Int) == 48) = false := by rw [cls_dig]; exact hc2.2
        clear hc hc2 hm
        obtain ⟨u0, u1, u2, u3, u4, u5, u6⟩ := hz1.cells
        obtain ⟨f0, f1, f2, f3, f4, f5, f6⟩ := hz1.free
        by_cases h45 : c.toNat = 45
        · have t2 : ((c.toNat : Int) == 45) = true := by rw [h45]; rfl
          clear h45
          go_enter Tryz.func91, Tryz.ntmps91
          go_upto_region 1 with fail
          rw [HW.out]
          go_wp2_with fail
          refine (CL.out _).mono ?_
          rintro e w4 ⟨rfl, rfl⟩
          go_wp2_with fail
          exact const_none rfl HC.out hz1 hE01 (Nat.le_refl _) rfl rfl
        · have t2 : ((c.toNat : Int) == 45) = false := by rw [beq_eq_false_iff_ne]; omega
          clear h45
          go_enter Tryz.func91, Tryz.ntmps91
          go_upto_region 1 with fail
          rw [HW.out]
          go_wp2_with fail
          refine (CL.out _).mono ?_
          rintro e w4 ⟨rfl, rfl⟩
          go_wp2_with fail
          exact const_none rfl HC.out hz1 hE01 (Nat.le_refl _) rfl rfl
      | str q hq hn =>
        have hmq : m = q.length + 2 := by rw [← hm]; simp
        have hm1 : 2 ≤ m := by omega
        have hb := ba_get (34 :: (q ++ [34])) 0
        rw [HD.out] at hb
        simp only [List.getD_cons_zero] at hb
        have HC := Lib.hid (show constOf (34 :: (q ++ [34])) = some ⟨3, 0, false, q⟩ by rw [HCR.out, constR_cons, if_pos (by decide)]; simp)
        have HX := Lib.hid (show D.extract 1 (m - 1) = ⟨q.toArray⟩ by
          rw [← HD.out, ba_sub, List.drop_succ_cons, List.drop_zero, show m - 1 - 1 = q.length by omega, List.take_left']; rfl)
        clear hq hn hmq hm
        obtain ⟨u0, u1, u2, u3, u4, u5, u6⟩ := hz1.cells
        go_enter Tryz.func91, Tryz.ntmps91
        go_upto_region 1 with fail
        rw [HW.out]
        go_wp2_with fail
        refine (rString_any _ _).mono ?_
        rintro e w4 ⟨rfl, hE4⟩
        rw [HX.out]
        have hI4 := hI1.ext hE4
        have hz4 := hz1.own (grown_of hE4 none) (by simp)
        obtain ⟨c0, c1, c2, c3, c4, c5, c6⟩ := con0_cells hI4
        obtain ⟨q0, q1, q2, q3, q4, q5, q6⟩ := hI4.freeAll
        go_upto_region 17 with fail
        show Code.wp _ _ _ _ (setV w4 w0.heap.size 3 0 false ⟨(q : List UInt8).toArray⟩)
        have hI5 := setV_in hI4 3 0 false q
        have hz5 := hz4.own (setV_grown w4 w0.heap.size 3 0 false ⟨(q : List UInt8).toArray⟩) (by simp; omega)
        have hE5 := ext_of_grown (hE01.trans hE4) (setV_grown w4 w0.heap.size 3 0 false ⟨(q : List UInt8).toArray⟩) (by omega)
        clear c0 c1 c2 c3 c4 c5 c6 q0 q1 q2 q3 q4 q5 q6
        generalize setV w4 w0.heap.size 3 0 false ⟨(q : List UInt8).toArray⟩ = w5 at *
        obtain ⟨c0, c1, c2, c3, c4, c5, c6⟩ := con_cells hI5
        obtain ⟨u0, u1, u2, u3, u4, u5, u6⟩ := hz5.cells
        obtain ⟨f0, f1, f2, f3, f4, f5, f6⟩ := hz5.free
        go_wp2_with fail
        exact const_some rfl ⟨3, 0, false, q⟩ HC.out hz5 hE5 (Nat.le_refl _) rfl rfl
      | num c u hc hu hl9 hz9 =>
        have hcd := hc
        unfold isDig at hcd
        simp only [Bool.and_eq_true, decide_eq_true_eq] at hcd
        have hm1 : 0 < m := by rw [← hm]; simp
        have hm10 : m ≤ 10 := by rw [← hm]; simp; omega
        have hb := ba_get (c :: u) 0
        rw [HD.out] at hb
        simp only [List.getD_cons_zero] at hb
        have hal : (c :: u).all isDig = true := by rw [List.all_cons, hc, hu]; rfl
        have HC := Lib.hid (show constOf (c :: u) = some ⟨1, (dval (c :: u) : Nat), false, []⟩ by rw [HCR.out, constR_cons, if_neg (by omega), if_pos hc])
        have t1 : ((c.toNat : Int) == 34) = false := by rw [beq_eq_false_iff_ne]; omega
        have t2 : ((c.toNat : Int) == 45) = false := by rw [beq_eq_false_iff_ne]; omega
        have CL := Lib.hid (fun W => cls_any c W)
        have t3 : ((clsN c : Int) == 48) = true := by rw [cls_dig]; exact hc
        have HDN := Lib.hid (show DN (c :: u) from fun y hy => .inl (all_mem' hal y hy))
        have DV := Lib.hid (dvs_num hal)
        have HAL := Lib.hid hal
        have HL9 := Lib.hid hl9
        clear hc hu hm hal hcd hl9 hz9
        go_enter Tryz.func91, Tryz.ntmps91
        go_upto_region 1 with fail
        rw [HW.out]
        go_wp2_with fail
        refine (CL.out _).mono ?_
        rintro e w4 ⟨rfl, rfl⟩
        go_wp2_with fail
        go_loop [5, 6] (fun nv kv => ∃ k : Nat, k ≤ m ∧ kv = .int .i64 k ∧ nv = .int .i64 (dvs ((c :: u).take k) : Nat)) (fun _ kv => m - (intOf kv).toNat)
        case atStart => exact ⟨0, Nat.zero_le _, rfl, rfl⟩
        case round =>
          obtain ⟨k, hk, rfl, rfl⟩ := hrel
          by_cases hlt : k < m
          · have hlt' : k < (c :: u).length := by rw [HM.out]; exact hlt
            have hbk := ba_get (c :: u) k
            rw [HD.out] at hbk
            obtain ⟨x, hx⟩ : ∃ x, (c :: u).getD k 0 = x := ⟨_, rfl⟩
            rw [hx] at hbk
            have hxg : (c :: u)[k] = x := by rw [← hx]; simp [List.getD, List.getElem?_eq_getElem hlt']
            have hxd := HDN.out x (by rw [← hxg]; exact List.getElem_mem hlt')
            have hts := List.take_succ_eq_append_getElem hlt'
            rw [hxg] at hts
            have hdl := dvs_lt k ((c :: u).take k) (by rw [List.length_take]; omega) (fun y hy => HDN.out y (List.mem_of_mem_take hy))
            have hp := pow10_le (show k ≤ 11 by omega)
            have HS := Lib.hid (show dvs ((c :: u).take (k + 1)) = _ from by rw [hts, dvs_snoc])
            obtain ⟨N, hN⟩ : ∃ N, dvs ((c :: u).take k) = N := ⟨_, rfl⟩
            rw [hN] at HS hdl ⊢
            have hN2 : N < 100000000000 := by omega
            clear hts hx hxg hlt' hdl hp hN
            by_cases h45 : x.toNat = 45
            · have tk : ((x.toNat : Int) != 45) = false := by rw [h45]; rfl
              have HX := Lib.hid (show dvs ((c :: u).take (k + 1)) = N by rw [HS.out, if_pos h45])
              clear h45 hxd
              go_wp2_with fail
              go_round
              case rel => exact ⟨k + 1, by omega, by go_num, by rw [HX.out]⟩
              case measure => simp [intOf]; omega
            · have tk : ((x.toNat : Int) != 45) = true := by rw [bne_iff_ne]; omega
              have hx9 := hxd.resolve_right h45
              unfold isDig at hx9
              simp only [Bool.and_eq_true, decide_eq_true_eq] at hx9
              have hx1 := hx9.1
              have hx2 := hx9.2
              have HX := Lib.hid (show dvs ((c :: u).take (k + 1)) = 10 * N + (x.toNat - 48) by rw [HS.out, if_neg h45])
              clear h45 hxd hx9
              go_wp2_with fail
              go_round
              case rel => exact ⟨k + 1, by omega, by go_num, by rw [HX.out]; go_num⟩
              case measure => simp [intOf]; omega
          · obtain rfl : k = m := by omega
            have htk : (c :: u).take k = (c :: u) := List.take_of_length_le (by rw [HM.out]; exact Nat.le_refl _)
            rw [htk, DV.out]
            have hdb := dval_lt HAL.out (by simpa using HL9.out)
            obtain ⟨N, hN⟩ : ∃ N, dval (c :: u) = N := ⟨_, rfl⟩
            rw [hN] at hdb HC ⊢
            clear htk hN hlt
            go_wp2_with fail
            refine (rInt_any _ _).mono ?_
            rintro e w4 ⟨rfl, hE4⟩
            have hI4 := hI1.ext hE4
            have hz4 := hz1.own (grown_of hE4 none) (by simp)
            obtain ⟨c0, c1, c2, c3, c4, c5, c6⟩ := con0_cells hI4
            obtain ⟨q0, q1, q2, q3, q4, q5, q6⟩ := hI4.freeAll
            go_upto_region 17 with fail
            show Code.wp _ _ _ _ (setV w4 w0.heap.size 1 ((N : Nat) : Int) false ⟨([] : List UInt8).toArray⟩)
            have hI5 := setV_in hI4 1 ((N : Nat) : Int) false []
            have hz5 := hz4.own (setV_grown w4 w0.heap.size 1 ((N : Nat) : Int) false ⟨([] : List UInt8).toArray⟩) (by simp; omega)
            have hE5 := ext_of_grown (hE01.trans hE4) (setV_grown w4 w0.heap.size 1 ((N : Nat) : Int) false ⟨([] : List UInt8).toArray⟩) (by omega)
            clear c0 c1 c2 c3 c4 c5 c6 q0 q1 q2 q3 q4 q5 q6
            generalize setV w4 w0.heap.size 1 ((N : Nat) : Int) false ⟨([] : List UInt8).toArray⟩ = w5 at *
            obtain ⟨c0, c1, c2, c3, c4, c5, c6⟩ := con_cells hI5
            obtain ⟨u0, u1, u2, u3, u4, u5, u6⟩ := hz5.cells
            obtain ⟨f0, f1, f2, f3, f4, f5, f6⟩ := hz5.free
            go_wp2_with fail
            exact const_some rfl ⟨1, (N : Nat), false, []⟩ HC.out hz5 hE5 (Nat.le_refl _) rfl rfl
      | neg c u hc hu hl9 hz9 =>
        have hm1 : 1 < m := by rw [← hm]; simp
        have hm10 : m ≤ 11 := by rw [← hm]; simp; omega
        have hb := ba_get (45 :: c :: u) 0
        rw [HD.out] at hb
        simp only [List.getD_cons_zero] at hb
        have hal : (c :: u).all isDig = true := by rw [List.all_cons, hc, hu]; rfl
        have HC := Lib.hid (show constOf (45 :: c :: u) = some ⟨1, -((dval (c :: u) : Nat) : Int), false, []⟩ by rw [HCR.out, constR_cons, if_neg (by decide), if_neg (by decide), if_pos ⟨by decide, by simp⟩])
        have CL : ∀ W, Calls Tryz.prog 90 #[.int .u8 45] W fun e w' => e = .returned (.int .u8 45) ∧ w' = W := fun W => cls_any 45 W
        have HCL := Lib.hid CL
        have HDN := Lib.hid (show DN (45 :: c :: u) from fun y hy => by
          rcases List.mem_cons.1 hy with rfl | hy
          · exact .inr (by decide)
          · exact .inl (all_mem' hal y hy))
        have DV := Lib.hid (dvs_neg hal)
        have HAL := Lib.hid hal
        have HL9 := Lib.hid hl9
        clear hc hu hm hal hl9 hz9 CL
        go_enter Tryz.func91, Tryz.ntmps91
        go_upto_region 1 with fail
        rw [HW.out]
        go_wp2_with fail
        refine (HCL.out _).mono ?_
        rintro e w4 ⟨rfl, rfl⟩
        go_wp2_with fail
        go_loop [5, 6] (fun nv kv => ∃ k : Nat, k ≤ m ∧ kv = .int .i64 k ∧ nv = .int .i64 (dvs ((45 :: c :: u).take k) : Nat)) (fun _ kv => m - (intOf kv).toNat)
        case atStart => exact ⟨0, Nat.zero_le _, rfl, rfl⟩
        case round =>
          obtain ⟨k, hk, rfl, rfl⟩ := hrel
          by_cases hlt : k < m
          · have hlt' : k < (45 :: c :: u).length := by rw [HM.out]; exact hlt
            have hbk := ba_get (45 :: c :: u) k
            rw [HD.out] at hbk
            obtain ⟨x, hx⟩ : ∃ x, (45 :: c :: u).getD k 0 = x := ⟨_, rfl⟩
            rw [hx] at hbk
            have hxg : (45 :: c :: u)[k] = x := by rw [← hx]; simp [List.getD, List.getElem?_eq_getElem hlt']
            have hxd := HDN.out x (by rw [← hxg]; exact List.getElem_mem hlt')
            have hts := List.take_succ_eq_append_getElem hlt'
            rw [hxg] at hts
            have hdl := dvs_lt k ((45 :: c :: u).take k) (by rw [List.length_take]; omega) (fun y hy => HDN.out y (List.mem_of_mem_take hy))
            have hp := pow10_le (show k ≤ 11 by omega)
            have HS := Lib.hid (show dvs ((45 :: c :: u).take (k + 1)) = _ from by rw [hts, dvs_snoc])
            obtain ⟨N, hN⟩ : ∃ N, dvs ((45 :: c :: u).take k) = N := ⟨_, rfl⟩
            rw [hN] at HS hdl ⊢
            have hN2 : N < 100000000000 := by omega
            clear hts hx hxg hlt' hdl hp hN
            by_cases h45 : x.toNat = 45
            · have tk : ((x.toNat : Int) != 45) = false := by rw [h45]; rfl
              have HX := Lib.hid (show dvs ((45 :: c :: u).take (k + 1)) = N by rw [HS.out, if_pos h45])
              clear h45 hxd
              go_wp2_with fail
              go_round
              case rel => exact ⟨k + 1, by omega, by go_num, by rw [HX.out]⟩
              case measure => simp [intOf]; omega
            · have tk : ((x.toNat : Int) != 45) = true := by rw [bne_iff_ne]; omega
              have hx9 := hxd.resolve_right h45
              unfold isDig at hx9
              simp only [Bool.and_eq_true, decide_eq_true_eq] at hx9
              have hx1 := hx9.1
              have hx2 := hx9.2
              have HX := Lib.hid (show dvs ((45 :: c :: u).take (k + 1)) = 10 * N + (x.toNat - 48) by rw [HS.out, if_neg h45])
              clear h45 hxd hx9
              go_wp2_with fail
              go_round
              case rel => exact ⟨k + 1, by omega, by go_num, by rw [HX.out]; go_num⟩
              case measure => simp [intOf]; omega
          · obtain rfl : k = m := by omega
            have htk : (45 :: c :: u).take k = (45 :: c :: u) := List.take_of_length_le (by rw [HM.out]; exact Nat.le_refl _)
            rw [htk, DV.out]
            have hdb := dval_lt HAL.out (by simpa using HL9.out)
            obtain ⟨N, hN⟩ : ∃ N, dval (c :: u) = N := ⟨_, rfl⟩
            rw [hN] at hdb HC ⊢
            clear htk hN hlt
            go_wp2_with fail
            refine (rInt_any _ _).mono ?_
            rintro e w4 ⟨rfl, hE4⟩
            have hI4 := hI1.ext hE4
            have hz4 := hz1.own (grown_of hE4 none) (by simp)
            obtain ⟨c0, c1, c2, c3, c4, c5, c6⟩ := con0_cells hI4
            obtain ⟨q0, q1, q2, q3, q4, q5, q6⟩ := hI4.freeAll
            go_upto_region 17 with fail
            show Code.wp _ _ _ _ (setV w4 w0.heap.size 1 (-((N : Nat) : Int)) false ⟨([] : List UInt8).toArray⟩)
            have hI5 := setV_in hI4 1 (-((N : Nat) : Int)) false []
            have hz5 := hz4.own (setV_grown w4 w0.heap.size 1 (-((N : Nat) : Int)) false ⟨([] : List UInt8).toArray⟩) (by simp; omega)
            have hE5 := ext_of_grown (hE01.trans hE4) (setV_grown w4 w0.heap.size 1 (-((N : Nat) : Int)) false ⟨([] : List UInt8).toArray⟩) (by omega)
            clear c0 c1 c2 c3 c4 c5 c6 q0 q1 q2 q3 q4 q5 q6
            generalize setV w4 w0.heap.size 1 (-((N : Nat) : Int)) false ⟨([] : List UInt8).toArray⟩ = w5 at *
            obtain ⟨c0, c1, c2, c3, c4, c5, c6⟩ := con_cells hI5
            obtain ⟨u0, u1, u2, u3, u4, u5, u6⟩ := hz5.cells
            obtain ⟨f0, f1, f2, f3, f4, f5, f6⟩ := hz5.free
            go_wp2_with fail
            exact const_some rfl ⟨1, -((N : Nat) : Int), false, []⟩ HC.out hz5 hE5 (Nat.le_refl _) rfl rfl
end Go.Proofs.YtggkkjnfonbpkaaGreatDoor
