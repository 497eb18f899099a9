/- (Under way) The byte replacer's Replace. -/
import Derived.Test.YthppcmejffdicaaGreatDoorQC
import Derived.Deep.OwnRows
import Derived.Laws.CopyOwn
import Derived.Lib.SlBytesRow
import Derived.Deep.RegionLaw

set_option linter.unusedSimpArgs false
set_option linter.unusedVariables false
namespace Go.Proofs.YthppcmejffdicaaGreatDoor
open Go.RowKit Hach Num Jn

theorem infoU : (Tryz.prog.info? 5).map (fun i => (i.zero, i.size, i.bytes)) = some (some (.int .u8 0), 1, 1) := by kernel_rfl
/- a buffer of bytes, filled from the front -/
def bufR (O : List UInt8) (m : Nat) : List Value := O.map (fun c => Value.int .u8 (c.toNat : Int)) ++ List.replicate m (.int .u8 0)
theorem row_made (w : World) (n : Nat) (t : TypeId) : (w.alloc (.cells (madeCells #[.int .u8 0] n) t)).heap[w.heap.size]? = some (.cells (bufR [] n).toArray t (0, 0)) := by
  have e : (w.alloc (.cells (madeCells #[.int .u8 0] n) t)).heap[w.heap.size]? = some (.cells (madeCells #[.int .u8 0] n) t) := by
    generalize madeCells #[.int .u8 0] n = x
    exact Array.getElem?_push_size
  rw [e]
  congr 2
  apply Array.ext_getElem?
  intro i
  simp only [bufR, List.map_nil, List.nil_append, madeCells]
  by_cases h : i < n
  · simp [h, Nat.mod_one]
  · simp [h]
theorem bufR_put (O : List UInt8) (m : Nat) (c : UInt8) : (bufR O (m + 1)).set O.length (.int .u8 (c.toNat : Int)) = bufR (O ++ [c]) m := by
  unfold bufR
  rw [List.replicate_succ, List.set_append_right _ _ (by simp)]
  simp
theorem bufR_store {w : World} {g : Nat} {O : List UInt8} {m : Nat} {t : TypeId} (c : UInt8) (h : w.heap[g]? = some (.cells (bufR O (m + 1)).toArray t (0, 0))) :
    (w.setCell ⟨g, O.length, none⟩ (.int .u8 (c.toNat : Int))).heap[g]? = some (.cells (bufR (O ++ [c]) m).toArray t (0, 0)) := by
  rw [← bufR_put]
  simp [World.setCell, Array.getElem?_modify, h]
theorem bufR_splice (O T : List UInt8) (m : Nat) : splice (bufR O (m + T.length)) O.length (T.map fun c => Value.int .u8 (c.toNat : Int)) = bufR (O ++ T) m := by
  unfold splice bufR
  rw [List.take_append_of_le_length (by simp), List.length_map, List.drop_append, List.drop_eq_nil_of_le (by simp), List.drop_replicate, List.take_of_length_le (by simp)]
  simp
theorem two_src {w : World} {b : Nat} {x y : Value} (h0 : w.cell? ⟨b, 0, none⟩ = some x) (h1 : w.cell? ⟨b, 1, none⟩ = some y) : ∀ (j : Nat) (v : Value), [x, y][j]? = some v → w.cell? ((⟨b, 0, none⟩ : Addr).add j) = some v
  | 0, v, h => by simp at h; subst h; simpa [Addr.add] using h0
  | 1, v, h => by simp at h; subst h; simpa [Addr.add] using h1
  | j + 2, v, h => by simp at h
theorem two_one {x y : Int} : ∀ v ∈ [Value.int .u8 x, Value.int .u8 y], v.oneCell' = true := by
  intro v hv
  rcases List.mem_cons.1 hv with rfl | hv
  · rfl
  · rcases List.mem_cons.1 hv with rfl | hv
    · rfl
    · cases hv
theorem bufR_cell {w : World} {g : Nat} {O : List UInt8} {m : Nat} {t : TypeId} (h : w.heap[g]? = some (.cells (bufR O (m + 1)).toArray t (0, 0))) : w.cell? ⟨g, O.length, none⟩ = some (.int .u8 0) ∧ w.frozen? ⟨g, O.length, none⟩ = false := by
  constructor
  · simp only [World.cell?, h, bufR]
    simp [List.replicate_succ]
  · simp [World.frozen?, h]
theorem min2 {n : Nat} (h : 2 ≤ n) : 2 = Nat.min 2 n := (Nat.min_eq_left h).symm
theorem infoU1 : (Tryz.prog.info? 5).map (·.size) = some 1 := by kernel_rfl
theorem bufR_length (O : List UInt8) (m : Nat) : (bufR O m).length = O.length + m := by simp [bufR]
theorem buf_text {w : World} {g : Nat} {O : List UInt8} {t : TypeId} (h : w.heap[g]? = some (.cells (bufR O 0).toArray t (0, 0))) (c : Nat) :
    (convert 57 9 (.slice (some ⟨g, 0, none⟩) O.length c)).run Tryz.prog w = .ok (.string ⟨O.toArray⟩) w := by
  have hb : Lib.Bytes w g 0 ⟨O.toArray⟩ := fun i hi => by
    have hi' : i < O.length := by rw [← toArr_size]; exact hi
    rw [Nat.zero_add]
    simp only [World.cell?, h, bufR]
    simp [hi']
    rfl
  have := Lib.run_convert_whole (P := Tryz.prog) w 57 5 9 Tryz.underlying57 Tryz.underlying5 Tryz.underlying9 g 0 ⟨O.toArray⟩ hb c
  rw [toArr_size] at this
  exact this
theorem esc_take_le (s : List UInt8) (k : Nat) : (esc (s.take k)).length ≤ (esc s).length := by
  rw [esc_size, esc_size]
  have h1 : (s.take k).count 92 ≤ s.count 92 := List.Sublist.count_le _ (List.take_sublist k s)
  have h2 : (s.take k).count 10 ≤ s.count 10 := List.Sublist.count_le _ (List.take_sublist k s)
  rw [List.length_take]; omega
set_option maxRecDepth 100000 in
set_option maxHeartbeats 2000000 in
theorem bsr_short (g : Nat) (s : List UInt8) (w : World) (hB : Bsr w g) (hs : s.length < 16) :
    Calls Tryz.prog 163 #[.pointer (some ⟨g, 0, none⟩), .string ⟨s.toArray⟩] w fun e w' => e = .returned (.string ⟨(esc s).toArray⟩) ∧ Ext w w' := by
  have hsz := toArr_size s
  obtain ⟨hl, h0, ⟨a, ac, ha, a1, a2, a3⟩, ⟨b, bc, hb, b1, b2, b3⟩, ⟨t, tc, ht, t1, t2, t3⟩⟩ := hB
  have H0 := Lib.hid h0
  have tb : decide ((16 : Int) ≤ (s.length : Int)) = false := by rw [decide_eq_false_iff_not]; omega
  clear h0
  go_enter Tryz.func163, Tryz.ntmps163
  go_wp2_with fail
  go_loop [5, 6, 10] (fun nv av i => ∃ k : Nat, k ≤ s.length ∧ i = .int .i64 k ∧ nv = .int .i64 ((s.length + ((s.take k).count 92 + (s.take k).count 10) : Nat) : Int) ∧ av = .bool (decide (0 < (s.take k).count 92 + (s.take k).count 10))) (fun _ _ i => s.length - (intOf i).toNat)
  case atStart => exact ⟨0, Nat.zero_le _, rfl, by simp, by simp⟩
  case round =>
    obtain ⟨k, hk, rfl, rfl, rfl⟩ := hrel
    by_cases hlt : k < s.length
    · have hb1 := ba_get s k
      have q1 := count_take s k 92 hlt
      have q2 := count_take s k 10 hlt
      have hc1 : (s.take k).count 92 ≤ 16 := Nat.le_trans (List.count_le_length) (by rw [List.length_take]; omega)
      have hc2 : (s.take k).count 10 ≤ 16 := Nat.le_trans (List.count_le_length) (by rw [List.length_take]; omega)
      generalize s.getD k 0 = c at hb1 q1 q2
      have hc := UInt8.toNat_lt c
      by_cases e1 : c = 92
      · subst e1
        rw [if_pos rfl] at q1
        rw [if_neg (by decide)] at q2
        have Q1 := Lib.hid q1
        have Q2 := Lib.hid q2
        clear q1 q2
        generalize (s.take k).count 92 = x at *
        generalize (s.take k).count 10 = y at *
        go_wp2_with fail
        go_round
        case rel => exact ⟨k + 1, by omega, by go_num, by rw [Q1.out, Q2.out]; go_num, by rw [Q1.out, Q2.out, decide_eq_true (by omega)]⟩
        case measure => simp [intOf]; omega
      · rw [if_neg e1] at q1
        by_cases e2 : c = 10
        · subst e2
          rw [if_pos rfl] at q2
          have Q1 := Lib.hid q1
          have Q2 := Lib.hid q2
          clear q1 q2 e1
          generalize (s.take k).count 92 = x at *
          generalize (s.take k).count 10 = y at *
          go_wp2_with fail
          go_round
          case rel => exact ⟨k + 1, by omega, by go_num, by rw [Q1.out, Q2.out]; go_num, by rw [Q1.out, Q2.out, decide_eq_true (by omega)]⟩
          case measure => simp [intOf]; omega
        · rw [if_neg e2] at q2
          have hn := H0.out c.toNat (by omega) (fun e => e2 (UInt8.toNat_inj.1 e)) (fun e => e1 (UInt8.toNat_inj.1 e))
          have Q1 := Lib.hid q1
          have Q2 := Lib.hid q2
          clear q1 q2 e1 e2
          generalize (s.take k).count 92 = x at *
          generalize (s.take k).count 10 = y at *
          go_wp2_with fail
          go_round
          case rel => exact ⟨k + 1, by omega, by go_num, by rw [Q1.out, Q2.out]; rfl, by rw [Q1.out, Q2.out]; rfl⟩
          case measure => simp [intOf]; omega
    · obtain rfl : k = s.length := by omega
      rw [List.take_length]
      by_cases hany : 0 < s.count 92 + s.count 10
      · rw [decide_eq_true hany]
        have HE := Ext.refl w
        have hN := esc_size s
        have hN2 : (s.length : Int) + ((s.count 92 : Nat) + (s.count 10 : Nat)) = ((esc s).length : Nat) := by rw [hN]; omega
        have hmk := Go.run_make_row' (P := Tryz.prog) 57 5 (.int .u8 0) 1 Tryz.underlying57 infoU rfl .i64 .i64 (esc s).length (by have := esc_len s; omega) (by have := esc_len s; omega) w
        have hel := esc_len s
        clear hN hany
        go_wp2_with fail
        have hA : Ext w (w.alloc (.cells (madeCells #[.int .u8 0] (esc s).length) 5)) := HE.trans (Ext.alloc _ _)
        have hB0 : Below w.heap.size w (w.alloc (.cells (madeCells #[.int .u8 0] (esc s).length) 5)) := Ext.alloc _ _
        have hR0 := row_made w (esc s).length 5
        have hgl : g < w.heap.size := Nat.lt_of_lt_of_le hl HE.sz
        have hal : a < w.heap.size := Nat.lt_of_lt_of_le ha HE.sz
        have hbl : b < w.heap.size := Nat.lt_of_lt_of_le hb HE.sz
        have z0 : ∀ c : Nat, c < 256 → c ≠ 10 → c ≠ 92 → w.cell? ⟨g, c, none⟩ = some (.slice none 0 0) := fun c x y z => (HE.old (p := ⟨g, c, none⟩) hl).trans (H0.out c x y z)
        have A1 := (HE.old (p := ⟨g, 10, none⟩) hl).trans a1
        have A2 := (HE.old (p := ⟨a, 0, none⟩) ha).trans a2
        have A3 := (HE.old (p := ⟨a, 1, none⟩) ha).trans a3
        have B1 := (HE.old (p := ⟨g, 92, none⟩) hl).trans b1
        have B2 := (HE.old (p := ⟨b, 0, none⟩) hb).trans b2
        have B3 := (HE.old (p := ⟨b, 1, none⟩) hb).trans b3
        have HZ := Lib.hid z0
        clear z0 a1 a2 a3 b1 b2 b3 hB0 hmk
        go_loopw [13, 14] (fun jv i wr => ∃ k : Nat, k ≤ s.length ∧ i = .int .i64 k ∧ jv = .int .i64 ((esc (s.take k)).length : Nat) ∧ Below w.heap.size w wr ∧ wr.heap[w.heap.size]? = some (.cells (bufR (esc (s.take k)) ((esc s).length - (esc (s.take k)).length)).toArray 5 (0, 0))) (fun _ i _ => s.length - (intOf i).toNat)
        case atStart => exact ⟨0, Nat.zero_le _, rfl, by simp [esc], Ext.alloc _ _, by simpa [esc] using hR0⟩
        case round =>
          obtain ⟨k, hk, rfl, rfl, hBr, hRr⟩ := hrel
          by_cases hlt : k < s.length
          · have ht := esc_take s k hlt
            have hle := esc_take_le s (k + 1)
            have hb' := ba_get s k
            have HGr : Hid (Ext w wr) := Lib.hid (HE.trans hBr)
            rw [ht, List.length_append] at hle
            generalize s.getD k 0 = c at ht hb' hle
            have HT := Lib.hid ht
            generalize esc (s.take k) = O at HT hle hRr
            have hc := UInt8.toNat_lt c
            clear ht
            by_cases e1 : c = 92
            · subst e1
              obtain ⟨m, hm⟩ : ∃ m, (esc s).length = O.length + 2 + m := ⟨(esc s).length - (O.length + 2), by simp [tok] at hle; omega⟩
              have hm' : (esc s).length - O.length = m + 2 := by omega
              rw [hm'] at hRr
              have HR := Lib.hid hRr
              clear hRr
              have hj2 : ((O.length : Nat) : Int) ≤ (esc s).length := by omega
              have hj3 : ¬ (esc s).length = O.length := by omega
              have HM := Lib.hid hm
              clear hm
              have k1 := hBr.cell (p := ⟨g, 92, none⟩) hgl |>.trans B1
              have k2 := hBr.cell (p := ⟨b, 0, none⟩) hbl |>.trans B2
              have k3 := hBr.cell (p := ⟨b, 1, none⟩) hbl |>.trans B3
              have hsrc := two_src k2 k3
              have HS := Lib.hid hsrc
              clear hsrc k2 k3
              go_wp2_with fail
              go_region_law (refine step_copy_splice rfl (.tmp 105) (.tmp 111) 57 57 rfl 5 Tryz.underlying57 infoU1 _ _ _ _ _ _ rfl rfl w.heap.size O.length (bufR O (m + 2)) 5 HR.out [.int .u8 92, .int .u8 92] (min2 (by have := HM.out; omega)) (fun _ => ⟨rfl, _, rfl, HS.out⟩) (show O.length + 2 ≤ _ from by rw [bufR_length]; omega) two_one w.heap.size w hBr.drew (Nat.le_refl _) ?_; intro w4 hg4 hb4)
              go_wp2_with fail
              go_roundw
              case rel =>
                refine ⟨k + 1, by omega, by go_num, by rw [HT.out, List.length_append]; rfl, hb4, ?_⟩
                rw [HT.out, show (esc s).length - (O ++ tok 92).length = m from by rw [HM.out, List.length_append]; show _ - (_ + 2) = _; omega]
                exact hg4.out.trans (congrArg (fun l => some (Obj.cells (List.toArray l) 5 (0, 0))) (bufR_splice O [92, 92] m))
              case measure => simp [intOf]; omega
            · by_cases e2 : c = 10
              · subst e2
                obtain ⟨m, hm⟩ : ∃ m, (esc s).length = O.length + 2 + m := ⟨(esc s).length - (O.length + 2), by simp [tok] at hle; omega⟩
                have hm' : (esc s).length - O.length = m + 2 := by omega
                rw [hm'] at hRr
                have HR := Lib.hid hRr
                clear hRr
                have hj2 : ((O.length : Nat) : Int) ≤ (esc s).length := by omega
                have hj3 : ¬ (esc s).length = O.length := by omega
                have HM := Lib.hid hm
                clear hm
                have k1 := hBr.cell (p := ⟨g, 10, none⟩) hgl |>.trans A1
                have k2 := hBr.cell (p := ⟨a, 0, none⟩) hal |>.trans A2
                have k3 := hBr.cell (p := ⟨a, 1, none⟩) hal |>.trans A3
                have hsrc := two_src k2 k3
                have HS := Lib.hid hsrc
                clear hsrc k2 k3
                go_wp2_with fail
                go_region_law (refine step_copy_splice rfl (.tmp 105) (.tmp 111) 57 57 rfl 5 Tryz.underlying57 infoU1 _ _ _ _ _ _ rfl rfl w.heap.size O.length (bufR O (m + 2)) 5 HR.out [.int .u8 92, .int .u8 110] (min2 (by have := HM.out; omega)) (fun _ => ⟨rfl, _, rfl, HS.out⟩) (show O.length + 2 ≤ _ from by rw [bufR_length]; omega) two_one w.heap.size w hBr.drew (Nat.le_refl _) ?_; intro w4 hg4 hb4)
                go_wp2_with fail
                go_roundw
                case rel =>
                  refine ⟨k + 1, by omega, by go_num, by rw [HT.out, List.length_append]; rfl, hb4, ?_⟩
                  rw [HT.out, show (esc s).length - (O ++ tok 10).length = m from by rw [HM.out, List.length_append]; show _ - (_ + 2) = _; omega]
                  exact hg4.out.trans (congrArg (fun l => some (Obj.cells (List.toArray l) 5 (0, 0))) (bufR_splice O [92, 110] m))
                case measure => simp [intOf]; omega
              · have htk : tok c = [c] := by unfold tok; rw [if_neg e1, if_neg e2]
                rw [htk] at HT hle
                obtain ⟨m, hm⟩ : ∃ m, (esc s).length = O.length + 1 + m := ⟨(esc s).length - (O.length + 1), by simp at hle; omega⟩
                have hm' : (esc s).length - O.length = m + 1 := by omega
                rw [hm'] at hRr
                have hcl := bufR_cell hRr
                have HR := Lib.hid hRr
                clear hRr hm'
                have hj2 : decide ((O.length : Int) < (esc s).length) = true := by rw [decide_eq_true_eq]; omega
                have hj3 : (O.length : Int) < (esc s).length := by omega
                have HM := Lib.hid hm
                have HL := Lib.hid hle
                clear hm hle
                have k1 := (hBr.cell (p := ⟨g, c.toNat, none⟩) hgl).trans (HZ.out c.toNat (by omega) (fun e => e2 (UInt8.toNat_inj.1 e)) (fun e => e1 (UInt8.toNat_inj.1 e)))
                have E12 := Lib.hid (And.intro e1 e2)
                clear e1 e2 htk
                go_wp2_with fail
                go_roundw
                case rel =>
                  refine ⟨k + 1, by omega, by go_num, by rw [HT.out, List.length_append]; rfl, hBr.setCell (Nat.le_refl _) _, ?_⟩
                  rw [HT.out, show (esc s).length - (O ++ [c]).length = m from by rw [HM.out, List.length_append, List.length_singleton]; omega]
                  exact bufR_store c HR.out
                case measure => simp [intOf]; omega
          · obtain rfl : k = s.length := by omega
            rw [List.take_length] at hRr ⊢
            rw [Nat.sub_self] at hRr
            have hcv := buf_text hRr
            go_wp2_with fail
            go_ret
            exact ⟨rfl, HE.trans hBr⟩
      · have he := esc_same (s := s) (by omega) (by omega)
        rw [decide_eq_false hany]
        have HE := Lib.hid he
        clear he hany
        go_wp2_with fail
        go_ret
        exact ⟨by rw [HE.out]; rfl, Ext.refl _⟩
/- how many bytes the counts have found -/
def cnt (s : List UInt8) : Nat → Nat
  | 0 => 0
  | 1 => s.count 10
  | _ => s.count 10 + s.count 92
theorem count1 (s : List UInt8) (c : UInt8) (w : World) : Calls Tryz.prog 74 #[.string ⟨s.toArray⟩, .string ⟨#[c]⟩] w fun e w' => e = .returned (.int .i64 ((s.count c : Nat) : Int)) ∧ w' = w :=
  (Tryz.strings_Count_one ⟨s.toArray⟩ c w).mono fun e w' h => by
    have e1 : Lib.countByte (⟨s.toArray⟩ : ByteArray).data.toList c = s.count c := by simp [Lib.countByte]
    rw [e1] at h; exact h

set_option maxRecDepth 100000 in
set_option maxHeartbeats 2000000 in
theorem bsr_long (g : Nat) (s : List UInt8) (w : World) (hB : Bsr w g) (hs : s.length < 1073741824) (h16 : 16 ≤ s.length) :
    Calls Tryz.prog 163 #[.pointer (some ⟨g, 0, none⟩), .string ⟨s.toArray⟩] w fun e w' => e = .returned (.string ⟨(esc s).toArray⟩) ∧ Ext w w' := by
  have hsz := toArr_size s
  obtain ⟨hl, h0, ⟨a, ac, ha, a1, a2, a3⟩, ⟨b, bc, hb, b1, b2, b3⟩, ⟨t, tc, ht, t1, t2, t3⟩⟩ := hB
  have H0 := Lib.hid h0
  have tb : decide ((16 : Int) ≤ (s.length : Int)) = true := by rw [decide_eq_true_eq]; omega
  clear h0
  go_enter Tryz.func163, Tryz.ntmps163
  go_wp2_with fail
  go_loopw [5, 6, 32] (fun nv av i wc => ∃ k : Nat, k ≤ 2 ∧ i = .int .i64 k ∧ nv = .int .i64 ((s.length + cnt s k : Nat) : Int) ∧ av = .bool (decide (0 < cnt s k)) ∧ Ext w wc) (fun _ _ i _ => 2 - (intOf i).toNat)
  case atStart => exact ⟨0, by omega, rfl, by simp [cnt], by simp [cnt], Ext.refl _⟩
  case round =>
    rename World => wc
    obtain ⟨k, hk, rfl, rfl, rfl, HE⟩ := hrel
    have T2 := (HE.old (p := ⟨t, 0, none⟩) ht).trans t2
    have T3 := (HE.old (p := ⟨t, 1, none⟩) ht).trans t3
    have A1 := (HE.old (p := ⟨g, 10, none⟩) hl).trans a1
    have B1 := (HE.old (p := ⟨g, 92, none⟩) hl).trans b1
    have hgl : g < wc.heap.size := Nat.lt_of_lt_of_le hl HE.sz
    have hc1 : s.count 10 ≤ s.length := List.count_le_length
    have hc2 : s.count 92 ≤ s.length := List.count_le_length
    have hb10 : ∀ h : 0 < (⟨#[10]⟩ : ByteArray).size, (⟨#[10]⟩ : ByteArray)[0]'h = 10 := fun _ => rfl
    have hb92 : ∀ h : 0 < (⟨#[92]⟩ : ByteArray).size, (⟨#[92]⟩ : ByteArray)[0]'h = 92 := fun _ => rfl
    by_cases hk0 : k = 0
    · subst hk0
      clear a1 b1 t2 t3 T3
      go_wp2_with fail
      refine (count1 s 10 wc).mono ?_
      rintro e w1 ⟨rfl, rfl⟩
      rename World => wc
      have q1 : cnt s 1 = s.count 10 := rfl
      have q0 : cnt s 0 = 0 := rfl
      rw [q0]
      have Q1 := Lib.hid q1
      clear q1 q0 hc2
      generalize s.count 10 = x at Q1 hc1 ⊢
      by_cases hx : x = 0
      · subst hx
        go_wp2_with fail
        go_roundw
        case rel => exact ⟨1, by omega, rfl, by rw [Q1.out]; simp, by rw [Q1.out]; simp, HE⟩
        case measure => simp [intOf]
      · have hx1 : ((x : Int) == 0) = false := by rw [beq_eq_false_iff_ne]; omega
        go_wp2_with fail
        apply wp_region_seq (l := [_, _, _, _, _, _, _, _, _, _, _, _, _]) (t := [_]) [some 41, some 42, some 43, some 44, some 45, some 46, some 47, some 48, some 49, some 50, some 51, some 52, some 53, some 5] [[], [], [], [], [3], [2], [5], [4, 6], [7], [8], [9], [1, 10], [0, 11], [12]] [13, 13, 13, 13, 13, 13, 13, 13, 13, 13, 13, 13, 13] [eqv _, eqv _, eqv _, eqv _, eqv _, eqv _, eqv _, eqv _, eqv _, eqv _, eqv _, eqv _, eqv _] (by kernel_rfl) (by kernel_rfl) ⟨?o0, ?o1, ?o2, ?o3, ?o4, ?o5, ?o6, ?o7, ?o8, ?o9, ?o10, ?o11, ?o12, trivial⟩ ?last
        case o0 => -- Op.move (Operand.tmp 5)
          intro xv V hE _
          simp only [putD, List.foldl_nil, List.getD_cons_zero]
          refine OpGoal.plain ?_
          go_wp2_with fail
          exact ⟨rfl, Ext.refl _, rfl⟩
        case o1 => -- Op.move (Operand.tmp 9)
          intro xv V hE _
          simp only [putD, List.foldl_nil, List.getD_cons_zero, List.getD_cons_succ]
          refine OpGoal.plain ?_
          go_wp2_with fail
          exact ⟨rfl, Ext.refl _, rfl⟩
        case o2 => -- Op.move (Operand.tmp 0)
          intro xv V hE _
          simp only [putD, List.foldl_nil, List.getD_cons_zero, List.getD_cons_succ]
          refine OpGoal.plain ?_
          go_wp2_with fail
          exact ⟨rfl, Ext.refl _, rfl⟩
        case o3 => -- Op.move (Operand.tmp 8)
          intro xv V hE _
          simp only [putD, List.foldl_nil, List.getD_cons_zero, List.getD_cons_succ]
          refine OpGoal.plain ?_
          go_wp2_with fail
          exact ⟨rfl, Ext.refl _, rfl⟩
        case o4 => -- Op.index 9 (Operand.tmp 44) (Operand.const (Value.int IntKind.i64 0))
          intro xv V hE hp
          have r3 : xv 3 = _ := hp.1
          clear hp
          simp only [putD, List.foldl_nil, List.foldl_cons, List.getD_cons_zero, List.getD_cons_succ, Act.put, List.setIfInBounds_toArray, List.set_cons_zero, List.set_cons_succ]
          refine OpGoal.plain ?_
          go_wp2_with fail
          exact ⟨rfl, Ext.refl _, rfl⟩
        case o5 => -- Op.nilCheck (Operand.tmp 43)
          intro xv V hE hp
          have r2 : xv 2 = _ := hp.1
          clear hp
          simp only [putD, List.foldl_nil, List.foldl_cons, List.getD_cons_zero, List.getD_cons_succ, Act.put, List.setIfInBounds_toArray, List.set_cons_zero, List.set_cons_succ]
          refine OpGoal.plain ?_
          go_wp2_with fail
          exact ⟨rfl, Ext.refl _, rfl⟩
        case o6 => -- Op.fieldAddr 148 (Operand.tmp 46) 0
          intro xv V hE hp
          have r5 : xv 5 = _ := hp.1
          clear hp
          simp only [putD, List.foldl_nil, List.foldl_cons, List.getD_cons_zero, List.getD_cons_succ, Act.put, List.setIfInBounds_toArray, List.set_cons_zero, List.set_cons_succ]
          refine OpGoal.plain ?_
          go_wp2_with fail
          exact ⟨rfl, Ext.refl _, rfl⟩
        case o7 => -- Op.indexAddr 146 (Operand.tmp 47) (Operand.tmp 45)
          intro xv V hE hp
          have r4 : xv 4 = _ := hp.1
          have r6 : xv 6 = _ := hp.2.1
          clear hp
          simp only [putD, List.foldl_nil, List.foldl_cons, List.getD_cons_zero, List.getD_cons_succ, Act.put, List.setIfInBounds_toArray, List.set_cons_zero, List.set_cons_succ]
          refine OpGoal.plain ?_
          go_wp2_with fail
          exact ⟨rfl, Ext.refl _, rfl⟩
        case o8 => -- Op.load 57 (Operand.tmp 48)
          intro xv V hE hp
          have r7 : xv 7 = _ := hp.1
          clear hp
          have k1 := ((Ext.drew wc).trans hE).old (p := ⟨g, 10, none⟩) hgl |>.trans A1
          simp only [putD, List.foldl_nil, List.foldl_cons, List.getD_cons_zero, List.getD_cons_succ, Act.put, List.setIfInBounds_toArray, List.set_cons_zero, List.set_cons_succ]
          refine OpGoal.plain ?_
          go_wp2_with fail
          exact ⟨rfl, Ext.refl _, rfl⟩
        case o9 => -- Op.call { callee := Callee.builtin Builtin.len, args := #[Operand.tmp 49], argTy
          intro xv V hE hp
          have r8 : xv 8 = _ := hp.1
          clear hp
          simp only [putD, List.foldl_nil, List.foldl_cons, List.getD_cons_zero, List.getD_cons_succ, Act.put, List.setIfInBounds_toArray, List.set_cons_zero, List.set_cons_succ]
          refine OpGoal.plain ?_
          go_wp2_with fail
          exact ⟨rfl, Ext.refl _, rfl⟩
        case o10 => -- Op.binOp BinOp.sub 3 (Operand.tmp 50) (Operand.const (Value.int IntKind.i64 1)) 
          intro xv V hE hp
          have r9 : xv 9 = _ := hp.1
          clear hp
          simp only [putD, List.foldl_nil, List.foldl_cons, List.getD_cons_zero, List.getD_cons_succ, Act.put, List.setIfInBounds_toArray, List.set_cons_zero, List.set_cons_succ]
          refine OpGoal.plain ?_
          go_wp2_with fail
          exact ⟨rfl, Ext.refl _, rfl⟩
        case o11 => -- Op.binOp BinOp.mul 3 (Operand.tmp 42) (Operand.tmp 51) 3
          intro xv V hE hp
          have r1 : xv 1 = _ := hp.1
          have r10 : xv 10 = _ := hp.2.1
          clear hp
          simp only [putD, List.foldl_nil, List.foldl_cons, List.getD_cons_zero, List.getD_cons_succ, Act.put, List.setIfInBounds_toArray, List.set_cons_zero, List.set_cons_succ]
          refine OpGoal.plain ?_
          go_wp2_with fail
          exact ⟨rfl, Ext.refl _, rfl⟩
        case o12 => -- Op.binOp BinOp.add 3 (Operand.tmp 41) (Operand.tmp 52) 3
          intro xv V hE hp
          have r0 : xv 0 = _ := hp.1
          have r11 : xv 11 = _ := hp.2.1
          clear hp
          simp only [putD, List.foldl_nil, List.foldl_cons, List.getD_cons_zero, List.getD_cons_succ, Act.put, List.setIfInBounds_toArray, List.set_cons_zero, List.set_cons_succ]
          refine OpGoal.plain ?_
          go_wp2_with fail
          exact ⟨rfl, Ext.refl _, rfl⟩
        case last =>
          intro xv V hE hp
          have r0 : xv 0 = _ := hp.1
          have r1 : xv 1 = _ := hp.2.1
          have r2 : xv 2 = _ := hp.2.2.1
          have r3 : xv 3 = _ := hp.2.2.2.1
          have r4 : xv 4 = _ := hp.2.2.2.2.1
          have r5 : xv 5 = _ := hp.2.2.2.2.2.1
          have r6 : xv 6 = _ := hp.2.2.2.2.2.2.1
          have r7 : xv 7 = _ := hp.2.2.2.2.2.2.2.1
          have r8 : xv 8 = _ := hp.2.2.2.2.2.2.2.2.1
          have r9 : xv 9 = _ := hp.2.2.2.2.2.2.2.2.2.1
          have r10 : xv 10 = _ := hp.2.2.2.2.2.2.2.2.2.2.1
          have r11 : xv 11 = _ := hp.2.2.2.2.2.2.2.2.2.2.2.1
          have r12 : xv 12 = _ := hp.2.2.2.2.2.2.2.2.2.2.2.2.1
          clear hp
          simp only [putD, List.foldl_nil, List.foldl_cons, List.getD_cons_zero, List.getD_cons_succ, Act.put, List.length_cons, List.length_nil, List.range_succ, List.range_zero, List.nil_append, List.cons_append, List.setIfInBounds_toArray, List.set_cons_zero, List.set_cons_succ]
          have hW := (HE.trans (Ext.drew wc)).trans hE
          go_wp2_with fail
          go_roundw
          case rel => exact ⟨1, by omega, rfl, by rw [Q1.out]; exact r12.trans (by go_num), by rw [Q1.out, decide_eq_true (show 0 < x by omega)], hW⟩
          case measure => simp [intOf]
    · by_cases hk1 : k = 1
      · subst hk1
        clear a1 b1 t2 t3 T2 hk0
        have q0 : cnt s 1 = s.count 10 := rfl
        rw [q0]
        have q1 : cnt s 2 = s.count 10 + s.count 92 := rfl
        have Q1 := Lib.hid q1
        clear q1 q0
        go_wp2_with fail
        refine (count1 s 92 wc).mono ?_
        rintro e w1 ⟨rfl, rfl⟩
        rename World => wc
        generalize s.count 10 = y at Q1 hc1 ⊢
        generalize s.count 92 = x at Q1 hc2 ⊢
        by_cases hx : x = 0
        · subst hx
          go_wp2_with fail
          go_roundw
          case rel => exact ⟨2, by omega, rfl, by rw [Q1.out]; rfl, by rw [Q1.out]; rfl, HE⟩
          case measure => simp [intOf]
        · have hx1 : ((x : Int) == 0) = false := by rw [beq_eq_false_iff_ne]; omega
          go_wp2_with fail
          apply wp_region_seq (l := [_, _, _, _, _, _, _, _, _, _, _, _, _]) (t := [_]) [some 41, some 42, some 43, some 44, some 45, some 46, some 47, some 48, some 49, some 50, some 51, some 52, some 53, some 5] [[], [], [], [], [3], [2], [5], [4, 6], [7], [8], [9], [1, 10], [0, 11], [12]] [13, 13, 13, 13, 13, 13, 13, 13, 13, 13, 13, 13, 13] [eqv _, eqv _, eqv _, eqv _, eqv _, eqv _, eqv _, eqv _, eqv _, eqv _, eqv _, eqv _, eqv _] (by kernel_rfl) (by kernel_rfl) ⟨?o0, ?o1, ?o2, ?o3, ?o4, ?o5, ?o6, ?o7, ?o8, ?o9, ?o10, ?o11, ?o12, trivial⟩ ?last
          case o0 => -- Op.move (Operand.tmp 5)
            intro xv V hE _
            simp only [putD, List.foldl_nil, List.getD_cons_zero]
            refine OpGoal.plain ?_
            go_wp2_with fail
            exact ⟨rfl, Ext.refl _, rfl⟩
          case o1 => -- Op.move (Operand.tmp 9)
            intro xv V hE _
            simp only [putD, List.foldl_nil, List.getD_cons_zero, List.getD_cons_succ]
            refine OpGoal.plain ?_
            go_wp2_with fail
            exact ⟨rfl, Ext.refl _, rfl⟩
          case o2 => -- Op.move (Operand.tmp 0)
            intro xv V hE _
            simp only [putD, List.foldl_nil, List.getD_cons_zero, List.getD_cons_succ]
            refine OpGoal.plain ?_
            go_wp2_with fail
            exact ⟨rfl, Ext.refl _, rfl⟩
          case o3 => -- Op.move (Operand.tmp 8)
            intro xv V hE _
            simp only [putD, List.foldl_nil, List.getD_cons_zero, List.getD_cons_succ]
            refine OpGoal.plain ?_
            go_wp2_with fail
            exact ⟨rfl, Ext.refl _, rfl⟩
          case o4 => -- Op.index 9 (Operand.tmp 44) (Operand.const (Value.int IntKind.i64 0))
            intro xv V hE hp
            have r3 : xv 3 = _ := hp.1
            clear hp
            simp only [putD, List.foldl_nil, List.foldl_cons, List.getD_cons_zero, List.getD_cons_succ, Act.put, List.setIfInBounds_toArray, List.set_cons_zero, List.set_cons_succ]
            refine OpGoal.plain ?_
            go_wp2_with fail
            exact ⟨rfl, Ext.refl _, rfl⟩
          case o5 => -- Op.nilCheck (Operand.tmp 43)
            intro xv V hE hp
            have r2 : xv 2 = _ := hp.1
            clear hp
            simp only [putD, List.foldl_nil, List.foldl_cons, List.getD_cons_zero, List.getD_cons_succ, Act.put, List.setIfInBounds_toArray, List.set_cons_zero, List.set_cons_succ]
            refine OpGoal.plain ?_
            go_wp2_with fail
            exact ⟨rfl, Ext.refl _, rfl⟩
          case o6 => -- Op.fieldAddr 148 (Operand.tmp 46) 0
            intro xv V hE hp
            have r5 : xv 5 = _ := hp.1
            clear hp
            simp only [putD, List.foldl_nil, List.foldl_cons, List.getD_cons_zero, List.getD_cons_succ, Act.put, List.setIfInBounds_toArray, List.set_cons_zero, List.set_cons_succ]
            refine OpGoal.plain ?_
            go_wp2_with fail
            exact ⟨rfl, Ext.refl _, rfl⟩
          case o7 => -- Op.indexAddr 146 (Operand.tmp 47) (Operand.tmp 45)
            intro xv V hE hp
            have r4 : xv 4 = _ := hp.1
            have r6 : xv 6 = _ := hp.2.1
            clear hp
            simp only [putD, List.foldl_nil, List.foldl_cons, List.getD_cons_zero, List.getD_cons_succ, Act.put, List.setIfInBounds_toArray, List.set_cons_zero, List.set_cons_succ]
            refine OpGoal.plain ?_
            go_wp2_with fail
            exact ⟨rfl, Ext.refl _, rfl⟩
          case o8 => -- Op.load 57 (Operand.tmp 48)
            intro xv V hE hp
            have r7 : xv 7 = _ := hp.1
            clear hp
            have k1 := ((Ext.drew wc).trans hE).old (p := ⟨g, 92, none⟩) hgl |>.trans B1
            simp only [putD, List.foldl_nil, List.foldl_cons, List.getD_cons_zero, List.getD_cons_succ, Act.put, List.setIfInBounds_toArray, List.set_cons_zero, List.set_cons_succ]
            refine OpGoal.plain ?_
            go_wp2_with fail
            exact ⟨rfl, Ext.refl _, rfl⟩
          case o9 => -- Op.call { callee := Callee.builtin Builtin.len, args := #[Operand.tmp 49], argTy
            intro xv V hE hp
            have r8 : xv 8 = _ := hp.1
            clear hp
            simp only [putD, List.foldl_nil, List.foldl_cons, List.getD_cons_zero, List.getD_cons_succ, Act.put, List.setIfInBounds_toArray, List.set_cons_zero, List.set_cons_succ]
            refine OpGoal.plain ?_
            go_wp2_with fail
            exact ⟨rfl, Ext.refl _, rfl⟩
          case o10 => -- Op.binOp BinOp.sub 3 (Operand.tmp 50) (Operand.const (Value.int IntKind.i64 1)) 
            intro xv V hE hp
            have r9 : xv 9 = _ := hp.1
            clear hp
            simp only [putD, List.foldl_nil, List.foldl_cons, List.getD_cons_zero, List.getD_cons_succ, Act.put, List.setIfInBounds_toArray, List.set_cons_zero, List.set_cons_succ]
            refine OpGoal.plain ?_
            go_wp2_with fail
            exact ⟨rfl, Ext.refl _, rfl⟩
          case o11 => -- Op.binOp BinOp.mul 3 (Operand.tmp 42) (Operand.tmp 51) 3
            intro xv V hE hp
            have r1 : xv 1 = _ := hp.1
            have r10 : xv 10 = _ := hp.2.1
            clear hp
            simp only [putD, List.foldl_nil, List.foldl_cons, List.getD_cons_zero, List.getD_cons_succ, Act.put, List.setIfInBounds_toArray, List.set_cons_zero, List.set_cons_succ]
            refine OpGoal.plain ?_
            go_wp2_with fail
            exact ⟨rfl, Ext.refl _, rfl⟩
          case o12 => -- Op.binOp BinOp.add 3 (Operand.tmp 41) (Operand.tmp 52) 3
            intro xv V hE hp
            have r0 : xv 0 = _ := hp.1
            have r11 : xv 11 = _ := hp.2.1
            clear hp
            simp only [putD, List.foldl_nil, List.foldl_cons, List.getD_cons_zero, List.getD_cons_succ, Act.put, List.setIfInBounds_toArray, List.set_cons_zero, List.set_cons_succ]
            refine OpGoal.plain ?_
            go_wp2_with fail
            exact ⟨rfl, Ext.refl _, rfl⟩
          case last =>
            intro xv V hE hp
            have r0 : xv 0 = _ := hp.1
            have r1 : xv 1 = _ := hp.2.1
            have r2 : xv 2 = _ := hp.2.2.1
            have r3 : xv 3 = _ := hp.2.2.2.1
            have r4 : xv 4 = _ := hp.2.2.2.2.1
            have r5 : xv 5 = _ := hp.2.2.2.2.2.1
            have r6 : xv 6 = _ := hp.2.2.2.2.2.2.1
            have r7 : xv 7 = _ := hp.2.2.2.2.2.2.2.1
            have r8 : xv 8 = _ := hp.2.2.2.2.2.2.2.2.1
            have r9 : xv 9 = _ := hp.2.2.2.2.2.2.2.2.2.1
            have r10 : xv 10 = _ := hp.2.2.2.2.2.2.2.2.2.2.1
            have r11 : xv 11 = _ := hp.2.2.2.2.2.2.2.2.2.2.2.1
            have r12 : xv 12 = _ := hp.2.2.2.2.2.2.2.2.2.2.2.2.1
            clear hp
            simp only [putD, List.foldl_nil, List.foldl_cons, List.getD_cons_zero, List.getD_cons_succ, Act.put, List.length_cons, List.length_nil, List.range_succ, List.range_zero, List.nil_append, List.cons_append, List.setIfInBounds_toArray, List.set_cons_zero, List.set_cons_succ]
            have hW := (HE.trans (Ext.drew wc)).trans hE
            go_wp2_with fail
            go_roundw
            case rel => exact ⟨2, by omega, rfl, by rw [Q1.out]; exact r12.trans (by go_num), by rw [Q1.out, decide_eq_true (show 0 < y + x by omega)], hW⟩
            case measure => simp [intOf]
      · obtain rfl : k = 2 := by omega
        have q0 : cnt s 2 = s.count 92 + s.count 10 := Nat.add_comm _ _
        rw [show ((2 : Nat) : Int) = 2 from rfl, q0, show s.length + (s.count 92 + s.count 10) = (esc s).length from by rw [esc_size]; omega]
        clear hk0 hk1 q0 T2 T3 A1 B1 hb10 hb92
        by_cases hany : 0 < s.count 92 + s.count 10
        · rw [decide_eq_true hany]
          have hN := esc_size s
          have hN2 : (s.length : Int) + ((s.count 92 : Nat) + (s.count 10 : Nat)) = ((esc s).length : Nat) := by rw [hN]; omega
          have hmk := Go.run_make_row' (P := Tryz.prog) 57 5 (.int .u8 0) 1 Tryz.underlying57 infoU rfl .i64 .i64 (esc s).length (by have := esc_len s; omega) (by have := esc_len s; omega) wc
          have hel := esc_len s
          clear hN hany
          go_wp2_with fail
          have hA : Ext w (wc.alloc (.cells (madeCells #[.int .u8 0] (esc s).length) 5)) := HE.trans (Ext.alloc _ _)
          have hB0 : Below wc.heap.size wc (wc.alloc (.cells (madeCells #[.int .u8 0] (esc s).length) 5)) := Ext.alloc _ _
          have hR0 := row_made wc (esc s).length 5
          have hgl : g < wc.heap.size := Nat.lt_of_lt_of_le hl HE.sz
          have hal : a < wc.heap.size := Nat.lt_of_lt_of_le ha HE.sz
          have hbl : b < wc.heap.size := Nat.lt_of_lt_of_le hb HE.sz
          have z0 : ∀ c : Nat, c < 256 → c ≠ 10 → c ≠ 92 → wc.cell? ⟨g, c, none⟩ = some (.slice none 0 0) := fun c x y z => (HE.old (p := ⟨g, c, none⟩) hl).trans (H0.out c x y z)
          have A1 := (HE.old (p := ⟨g, 10, none⟩) hl).trans a1
          have A2 := (HE.old (p := ⟨a, 0, none⟩) ha).trans a2
          have A3 := (HE.old (p := ⟨a, 1, none⟩) ha).trans a3
          have B1 := (HE.old (p := ⟨g, 92, none⟩) hl).trans b1
          have B2 := (HE.old (p := ⟨b, 0, none⟩) hb).trans b2
          have B3 := (HE.old (p := ⟨b, 1, none⟩) hb).trans b3
          have HZ := Lib.hid z0
          clear z0 a1 a2 a3 b1 b2 b3 hB0 hmk
          go_loopw [13, 14] (fun jv i wr => ∃ k : Nat, k ≤ s.length ∧ i = .int .i64 k ∧ jv = .int .i64 ((esc (s.take k)).length : Nat) ∧ Below wc.heap.size wc wr ∧ wr.heap[wc.heap.size]? = some (.cells (bufR (esc (s.take k)) ((esc s).length - (esc (s.take k)).length)).toArray 5 (0, 0))) (fun _ i _ => s.length - (intOf i).toNat)
          case atStart => exact ⟨0, Nat.zero_le _, rfl, by simp [esc], Ext.alloc _ _, by simpa [esc] using hR0⟩
          case round =>
            obtain ⟨k, hk, rfl, rfl, hBr, hRr⟩ := hrel
            by_cases hlt : k < s.length
            · have ht := esc_take s k hlt
              have hle := esc_take_le s (k + 1)
              have hb' := ba_get s k
              have HGr : Hid (Ext w wr) := Lib.hid (HE.trans hBr)
              rw [ht, List.length_append] at hle
              generalize s.getD k 0 = c at ht hb' hle
              have HT := Lib.hid ht
              generalize esc (s.take k) = O at HT hle hRr
              have hc := UInt8.toNat_lt c
              clear ht
              by_cases e1 : c = 92
              · subst e1
                obtain ⟨m, hm⟩ : ∃ m, (esc s).length = O.length + 2 + m := ⟨(esc s).length - (O.length + 2), by simp [tok] at hle; omega⟩
                have hm' : (esc s).length - O.length = m + 2 := by omega
                rw [hm'] at hRr
                have HR := Lib.hid hRr
                clear hRr
                have hj2 : ((O.length : Nat) : Int) ≤ (esc s).length := by omega
                have hj3 : ¬ (esc s).length = O.length := by omega
                have HM := Lib.hid hm
                clear hm
                have k1 := hBr.cell (p := ⟨g, 92, none⟩) hgl |>.trans B1
                have k2 := hBr.cell (p := ⟨b, 0, none⟩) hbl |>.trans B2
                have k3 := hBr.cell (p := ⟨b, 1, none⟩) hbl |>.trans B3
                have hsrc := two_src k2 k3
                have HS := Lib.hid hsrc
                clear hsrc k2 k3
                go_wp2_with fail
                go_region_law (refine step_copy_splice rfl (.tmp 105) (.tmp 111) 57 57 rfl 5 Tryz.underlying57 infoU1 _ _ _ _ _ _ rfl rfl wc.heap.size O.length (bufR O (m + 2)) 5 HR.out [.int .u8 92, .int .u8 92] (min2 (by have := HM.out; omega)) (fun _ => ⟨rfl, _, rfl, HS.out⟩) (show O.length + 2 ≤ _ from by rw [bufR_length]; omega) two_one wc.heap.size wc hBr.drew (Nat.le_refl _) ?_; intro w4 hg4 hb4)
                go_wp2_with fail
                go_roundw
                case rel =>
                  refine ⟨k + 1, by omega, by go_num, by rw [HT.out, List.length_append]; rfl, hb4, ?_⟩
                  rw [HT.out, show (esc s).length - (O ++ tok 92).length = m from by rw [HM.out, List.length_append]; show _ - (_ + 2) = _; omega]
                  exact hg4.out.trans (congrArg (fun l => some (Obj.cells (List.toArray l) 5 (0, 0))) (bufR_splice O [92, 92] m))
                case measure => simp [intOf]; omega
              · by_cases e2 : c = 10
                · subst e2
                  obtain ⟨m, hm⟩ : ∃ m, (esc s).length = O.length + 2 + m := ⟨(esc s).length - (O.length + 2), by simp [tok] at hle; omega⟩
                  have hm' : (esc s).length - O.length = m + 2 := by omega
                  rw [hm'] at hRr
                  have HR := Lib.hid hRr
                  clear hRr
                  have hj2 : ((O.length : Nat) : Int) ≤ (esc s).length := by omega
                  have hj3 : ¬ (esc s).length = O.length := by omega
                  have HM := Lib.hid hm
                  clear hm
                  have k1 := hBr.cell (p := ⟨g, 10, none⟩) hgl |>.trans A1
                  have k2 := hBr.cell (p := ⟨a, 0, none⟩) hal |>.trans A2
                  have k3 := hBr.cell (p := ⟨a, 1, none⟩) hal |>.trans A3
                  have hsrc := two_src k2 k3
                  have HS := Lib.hid hsrc
                  clear hsrc k2 k3
                  go_wp2_with fail
                  go_region_law (refine step_copy_splice rfl (.tmp 105) (.tmp 111) 57 57 rfl 5 Tryz.underlying57 infoU1 _ _ _ _ _ _ rfl rfl wc.heap.size O.length (bufR O (m + 2)) 5 HR.out [.int .u8 92, .int .u8 110] (min2 (by have := HM.out; omega)) (fun _ => ⟨rfl, _, rfl, HS.out⟩) (show O.length + 2 ≤ _ from by rw [bufR_length]; omega) two_one wc.heap.size wc hBr.drew (Nat.le_refl _) ?_; intro w4 hg4 hb4)
                  go_wp2_with fail
                  go_roundw
                  case rel =>
                    refine ⟨k + 1, by omega, by go_num, by rw [HT.out, List.length_append]; rfl, hb4, ?_⟩
                    rw [HT.out, show (esc s).length - (O ++ tok 10).length = m from by rw [HM.out, List.length_append]; show _ - (_ + 2) = _; omega]
                    exact hg4.out.trans (congrArg (fun l => some (Obj.cells (List.toArray l) 5 (0, 0))) (bufR_splice O [92, 110] m))
                  case measure => simp [intOf]; omega
                · have htk : tok c = [c] := by unfold tok; rw [if_neg e1, if_neg e2]
                  rw [htk] at HT hle
                  obtain ⟨m, hm⟩ : ∃ m, (esc s).length = O.length + 1 + m := ⟨(esc s).length - (O.length + 1), by simp at hle; omega⟩
                  have hm' : (esc s).length - O.length = m + 1 := by omega
                  rw [hm'] at hRr
                  have hcl := bufR_cell hRr
                  have HR := Lib.hid hRr
                  clear hRr hm'
                  have hj2 : decide ((O.length : Int) < (esc s).length) = true := by rw [decide_eq_true_eq]; omega
                  have hj3 : (O.length : Int) < (esc s).length := by omega
                  have HM := Lib.hid hm
                  have HL := Lib.hid hle
                  clear hm hle
                  have k1 := (hBr.cell (p := ⟨g, c.toNat, none⟩) hgl).trans (HZ.out c.toNat (by omega) (fun e => e2 (UInt8.toNat_inj.1 e)) (fun e => e1 (UInt8.toNat_inj.1 e)))
                  have E12 := Lib.hid (And.intro e1 e2)
                  clear e1 e2 htk
                  go_wp2_with fail
                  go_roundw
                  case rel =>
                    refine ⟨k + 1, by omega, by go_num, by rw [HT.out, List.length_append]; rfl, hBr.setCell (Nat.le_refl _) _, ?_⟩
                    rw [HT.out, show (esc s).length - (O ++ [c]).length = m from by rw [HM.out, List.length_append, List.length_singleton]; omega]
                    exact bufR_store c HR.out
                  case measure => simp [intOf]; omega
            · obtain rfl : k = s.length := by omega
              rw [List.take_length] at hRr ⊢
              rw [Nat.sub_self] at hRr
              have hcv := buf_text hRr
              go_wp2_with fail
              go_ret
              exact ⟨rfl, HE.trans hBr⟩
        · have he := esc_same (s := s) (by omega) (by omega)
          rw [decide_eq_false hany]
          have HX := Lib.hid he
          clear he hany
          go_wp2_with fail
          go_ret
          exact ⟨by rw [HX.out]; rfl, HE⟩
end Go.Proofs.YthppcmejffdicaaGreatDoor
