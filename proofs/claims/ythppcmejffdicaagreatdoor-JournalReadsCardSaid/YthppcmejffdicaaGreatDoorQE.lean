/- The writer that the generic replacer writes to. -/
import Derived.Test.YthppcmejffdicaaGreatDoorQJzj
import Derived.Lib.AppendStr
import Derived.Stop.Asserts
import Derived.Deep.RegionWith
import Derived.Lib.BufferRead
import Derived.OwnWalk

set_option linter.unusedSimpArgs false
set_option linter.unusedVariables false
namespace Go.Proofs.YthppcmejffdicaaGreatDoor
open Go.RowKit Hach Num Jn

/- what has been written -/
def Buf (w : World) (base p : Nat) (O : List UInt8) : Prop :=
  ∃ v, w.heap[p]? = some (.cells #[v] 202 (0, 0)) ∧ w.ownsRow base 5 1 v O.length (O.map fun c => Value.int .u8 (c.toNat : Int))
theorem Buf.lt {w : World} {base p : Nat} {O : List UInt8} (h : Buf w base p O) : p < w.heap.size := by obtain ⟨v, h, _⟩ := h; exact (Array.getElem?_eq_some_iff.1 h).1
theorem row_ne {w : World} {base p : Nat} {v u : Value} {n : Nat} {xs : List Value} (hp : w.heap[p]? = some (.cells #[u] 202 (0, 0))) (h : w.ownsRow base 5 1 v n xs) : v.ownBlock = none ∨ v.ownBlock ≠ some p := by
  rcases h.2 with ⟨rfl, _⟩ | ⟨g, cap, cur, rfl, hb, hg, r⟩
  · exact .inl rfl
  · refine .inr fun e => ?_
    have e : g = p := by simpa [Value.ownBlock] using e
    subst e
    rw [hp] at hg
    cases hg
theorem row_form {w : World} {base : Nat} {e : TypeId} {size : Nat} {v : Value} {n : Nat} {xs : List Value} (h : w.ownsRow base e size v n xs) : ∃ A m c, v = .slice A m c := by
  rcases h.2 with ⟨rfl, _⟩ | ⟨g, cap, cur, rfl, hb, hg, r⟩
  · exact ⟨_, _, _, rfl⟩
  · exact ⟨_, _, _, rfl⟩
theorem Buf.ext {w w' : World} {base p : Nat} {O : List UInt8} (h : Buf w base p O) (hE : Ext w w') : Buf w' base p O := by
  have hl := h.lt
  obtain ⟨v, h1, h2⟩ := h
  exact ⟨v, (Below.block hE _ hl).trans h1, World.ownsRow.kept h2 (grown_of_ext hE) (by cases v.ownBlock <;> simp)⟩

set_option maxRecDepth 100000 in
set_option maxHeartbeats 1000000 in
theorem wr_any (base p : Nat) (O T : List UInt8) (w : World) (hB : Buf w base p O) (hl : O.length + T.length < 4294967296) (hbase : base ≤ p) :
    Calls Tryz.prog 167 #[.pointer (some ⟨p, 0, none⟩), .string ⟨T.toArray⟩] w fun e w' => e = .returned (.tuple #[.int .i64 (T.length : Nat), .nilIface]) ∧ Buf w' base p (O ++ T) ∧ Below base w w' := by
  have hlp := hB.lt
  obtain ⟨v, h1, h2⟩ := hB
  have hsz := toArr_size T
  have c0 : w.cell? ⟨p, 0, none⟩ = some v := by simp [World.cell?, h1]
  obtain ⟨i0, hi, hz0, hz1, hz2⟩ := info_parts infoU
  have hnp : some p ≠ v.ownBlock := by rcases row_ne h1 h2 with e | e; · rw [e]; simp
                                       · exact fun h => e h.symm
  have HNE := Lib.hid hnp
  clear hnp
  go_enter Tryz.func167, Tryz.ntmps167
  go_wp2_with (at_builtin; go_loud (refine Lib.wpList_append_own_string (o := ⟨some 11, _, _, _, _, _⟩) w rfl (.tmp 9) (.tmp 10) 202 9 rfl base 5 i0 Tryz.underlying202 Tryz.underlying9 hi hz0 hz1 hz2 v O.length _ rfl h2 ⟨T.toArray⟩ rfl (by simp only [maxLen]; omega) (by omega) (by omega) ?_; intro v' w' h3 h4 _; obtain ⟨A, m, c, rfl⟩ := row_form h3; have k1 : w'.cell? ⟨p, 0, none⟩ = some v := (World.cell?_of_block (a := ⟨p, 0, none⟩) (h4.block p hlp HNE.out)).trans c0; have k2 : w'.frozen? ⟨p, 0, none⟩ = false := (World.frozen?_of_block (a := ⟨p, 0, none⟩) (h4.block p hlp HNE.out)).trans (by simp [World.frozen?, h1])))
  go_ret2
  have kp : w'.heap[p]? = some (.cells #[v] 202 (0, 0)) := (h4.block p hlp HNE.out).trans h1
  have hb : Below base w w' := (Below.refl base w).grown h4 (by omega) fun k hk => (World.ownsRow.lt h2 k hk).1
  refine ⟨rfl, ⟨.slice A m c, by simp [World.setCell, Array.getElem?_modify, kp], ?_⟩, hb.setCell (by exact hbase) _⟩
  have h5 := World.ownsRow.kept h3 (grown_set w' p 0 (.slice A m c)) (row_ne kp h3)
  rw [hsz] at h5
  simpa [Lib.strCells] using h5
end Go.Proofs.YthppcmejffdicaaGreatDoor

/- The generic replacer's WriteString. -/
namespace Go.Proofs.YthppcmejffdicaaGreatDoor
open Go.RowKit Hach Num Jn

theorem asserts (v : Value) (w : World) : (Instr.typeAssert (.iface 203 v) 205 207 true).run Tryz.prog w = .ok (.tuple #[.iface 203 v, .bool true]) w :=
  run_typeAssert_hasB Tryz.underlying207 (by kernel_rfl) v _ w
set_option maxRecDepth 100000 in
theorem gsw_any (p : Nat) (w : World) : Calls Tryz.prog 159 #[.iface 203 (.pointer (some ⟨p, 0, none⟩))] w fun e w' => e = .returned (.iface 203 (.pointer (some ⟨p, 0, none⟩))) ∧ w' = w := by
  have ha := asserts
  go_enter Tryz.func159, Tryz.ntmps159
  go_wp2_with fail
  go_ret
  exact ⟨rfl, rfl⟩
theorem nil_ahead (p : Nat) (w : World) : (nilAhead 315 203 (.pointer (some ⟨p, 0, none⟩)) "WriteString").run Tryz.prog w = .ok (some false) w := by kernel_rfl
theorem method_ws (p : Nat) (w : World) : (method 315 203 (.pointer (some ⟨p, 0, none⟩)) "WriteString").run Tryz.prog w = .ok (167, .pointer (some ⟨p, 0, none⟩)) w := by kernel_rfl

/- cuts of a string -/
theorem cut_from (s : List UInt8) (i : Nat) : (⟨s.toArray⟩ : ByteArray).extract i s.length = ⟨(s.drop i).toArray⟩ := by
  apply ba_ext
  rw [ByteArray.data_extract]
  simp [List.take_of_length_le]
theorem cut_mid (s : List UInt8) (l i : Nat) : (⟨s.toArray⟩ : ByteArray).extract l i = ⟨((s.drop l).take (i - l)).toArray⟩ := by
  apply ba_ext
  rw [ByteArray.data_extract]
  simp [List.extract_eq_take_drop]
theorem mid_next (s : List UInt8) {l i : Nat} (hl : l ≤ i) (hi : i < s.length) : (s.drop l).take (i + 1 - l) = (s.drop l).take (i - l) ++ [s.getD i 0] := by
  rw [show i + 1 - l = (i - l) + 1 by omega, List.take_succ_eq_append_getElem (by rw [List.length_drop]; omega)]
  congr 1
  rw [List.getElem_drop]
  simp [List.getD, show l + (i - l) = i by omega, List.getElem?_eq_getElem hi]
theorem drop_next (s : List UInt8) {i : Nat} (hi : i < s.length) : s.drop i = s.getD i 0 :: s.drop (i + 1) := by
  rw [List.drop_eq_getElem_cons hi]
  simp [List.getD, List.getElem?_eq_getElem hi]

theorem step_none {s O : List UInt8} {l i : Nat} (hl : l ≤ i) (hi : i < s.length) (hu : une s = O ++ ((s.drop l).take (i - l) ++ une (s.drop i))) (h : une (s.drop i) = s.getD i 0 :: une (s.drop (i + 1))) : une s = O ++ ((s.drop l).take (i + 1 - l) ++ une (s.drop (i + 1))) := by
  rw [hu, mid_next s hl hi, h]; simp
theorem step_some {s O : List UInt8} {l i : Nat} {v : UInt8} (hu : une s = O ++ ((s.drop l).take (i - l) ++ une (s.drop i))) (h : une (s.drop i) = v :: une (s.drop (i + 2))) : une s = (O ++ (s.drop l).take (i - l) ++ [v]) ++ ((s.drop (i + 2)).take (i + 2 - (i + 2)) ++ une (s.drop (i + 2))) := by
  rw [hu, h]; simp
theorem une_cons {c : UInt8} (h : c ≠ 92) (r : List UInt8) : une (c :: r) = c :: une r := une_plain h r

/- the replacer lies below block B -/
def GenB (B : Nat) (w : World) (g : Nat) : Prop := g < B ∧ ∃ t a t1 b c, (t < B ∧ a < B ∧ t1 < B ∧ b < B ∧ c < B) ∧ GR w g (.slice (some ⟨t, 0, none⟩) 2 2) 2 fmp ∧ TwoP w t (some ⟨a, 0, none⟩) none ∧ Nd w a ⟨#[]⟩ 0 ⟨#[]⟩ none (.slice (some ⟨t1, 0, none⟩) 2 2) ∧ TwoP w t1 (some ⟨b, 0, none⟩) (some ⟨c, 0, none⟩) ∧
  Nd w b ⟨#[92]⟩ 4 ⟨#[]⟩ none (.slice none 0 0) ∧ Nd w c ⟨#[10]⟩ 2 ⟨#[]⟩ none (.slice none 0 0)
theorem GenB.gen {B : Nat} {w : World} {g : Nat} (h : GenB B w g) : Gen w g := by obtain ⟨_, t, a, t1, b, c, _, h⟩ := h; exact ⟨t, a, t1, b, c, h⟩
theorem Gen.genB {w : World} {g : Nat} (h : Gen w g) : GenB w.heap.size w g := by
  obtain ⟨t, a, t1, b, c, h1, h2, h3, h4, h5, h6⟩ := h
  exact ⟨h1.lt, t, a, t1, b, c, ⟨h2.lt, h3.lt, h4.lt, h5.lt, h6.lt⟩, h1, h2, h3, h4, h5, h6⟩
theorem GenB.below {B : Nat} {w w' : World} {g : Nat} (h : GenB B w g) (hB : Below B w w') : GenB B w' g := by
  obtain ⟨hg, t, a, t1, b, c, ⟨l1, l2, l3, l4, l5⟩, h1, h2, h3, h4, h5, h6⟩ := h
  exact ⟨hg, t, a, t1, b, c, ⟨l1, l2, l3, l4, l5⟩, h1.block (hB.block _ hg), h2.block (hB.block _ l1), h3.of_block (hB.block _ l2), h4.block (hB.block _ l3), h5.of_block (hB.block _ l4), h6.of_block (hB.block _ l5)⟩

set_option maxRecDepth 100000 in
set_option maxHeartbeats 4000000 in
theorem ws_any (g p base : Nat) (s : List UInt8) (w : World) (hG : GenB base w g) (hB : Buf w base p []) (hs : s.length < 1073741824) (hbp : base ≤ p) :
    Calls Tryz.prog 158 #[.pointer (some ⟨g, 0, none⟩), .iface 203 (.pointer (some ⟨p, 0, none⟩)), .string ⟨s.toArray⟩] w fun e w' => (∃ v, e = .returned v) ∧ Buf w' base p (une s) ∧ Below base w w' := by
  have hsz := toArr_size s
  have hn := nil_ahead
  have hm := method_ws
  go_enter Tryz.func158, Tryz.ntmps158
  go_wp2_with fail
  refine (gsw_any p w).mono ?_
  rintro e w1 ⟨rfl, rfl⟩
  rename World => w
  go_wp2_with fail
  go_loopw [6, 9, 10, 11, 12] (fun n lst wn pm iv wr => ∃ (l i : Nat) (O : List UInt8) (m : Int), l ≤ i ∧ l ≤ s.length ∧ i ≤ s.length + 1 ∧ n = .int .i64 (O.length : Nat) ∧ lst = .int .i64 l ∧ wn = .int .i64 m ∧ pm = .bool false ∧ iv = .int .i64 i ∧
    une s = O ++ ((s.drop l).take (i - l) ++ une (s.drop i)) ∧ Buf wr base p O ∧ Below base w wr ∧ GenB base wr g) (fun _ _ _ _ iv _ => s.length + 1 - (intOf iv).toNat)
  case atStart => exact ⟨0, 0, [], 0, Nat.le_refl _, Nat.zero_le _, by omega, rfl, rfl, rfl, rfl, rfl, by simp, hB, Below.refl _ _, hG⟩
  case round =>
    rename World => wo
    obtain ⟨l, i, O, m, h1, h2, h3, rfl, rfl, rfl, rfl, rfl, hu, hBr, hbr, hGr⟩ := hrel
    have HU := Lib.hid hu
    clear hu hG hB
    by_cases hi1 : i = s.length + 1
    · subst hi1
      have hx := cut_from s l
      have hOl := congrArg List.length HU.out
      have hul := une_len s.length s (Nat.le_refl _)
      rw [List.length_append] at hOl
      have d1 : decide (((s.length : Nat) : Int) + 1 ≤ (s.length : Int)) = false := by rw [decide_eq_false_iff_not]; omega
      have hfin : une s = O ++ s.drop l := by
        rw [HU.out, List.take_of_length_le (by rw [List.length_drop]; omega), List.drop_eq_nil_of_le (show s.length ≤ s.length + 1 by omega)]
        simp [une]
      have HF := Lib.hid hfin
      clear hfin h1 h3
      by_cases hl : l = s.length
      · subst hl
        go_wp2_with fail
        go_ret2
        refine ⟨⟨_, rfl⟩, ?_, hbr⟩
        rw [HF.out, List.drop_length, List.append_nil]
        exact hBr
      · have hne : ((l : Int) != (s.length : Int)) = true := by simp; omega
        have hBd := hBr.ext (Ext.drew wo)
        have hlO : O.length + (s.drop l).length < 4294967296 := by rw [List.length_drop]; omega
        go_wp2_with fail
        go_region_with (go_at_call 167; refine (wr_any base p O (s.drop l) _ hBd hlO hbp).mono ?_; rintro e w2 ⟨rfl, hB2, hb2⟩)
        go_wp2_with fail
        go_ret2
        exact ⟨⟨_, rfl⟩, by rw [HF.out]; exact hB2, hbr.drew.trans hb2⟩
    · by_cases hi2 : i = s.length
      · subst hi2
        have hx := cut_from s s.length
        rw [List.drop_length] at hx
        clear hi1
        go_wp2_with fail
        refine (lookup_any g [] wo hGr.gen (by simp) (.inl rfl)).mono ?_
        rintro e w2 ⟨rfl, hE2⟩
        go_wp2_with fail
        go_roundw
        case rel => 
          refine ⟨l, s.length + 1, O, m, by omega, h2, by omega, rfl, rfl, rfl, rfl, by go_num, ?_, hBr.ext hE2, Below.trans hbr (Below.mono hE2 (Nat.le_trans hbp (Nat.le_of_lt hBr.lt))), ?_⟩
          · rw [HU.out, List.drop_eq_nil_of_le (show s.length ≤ s.length + 1 by omega), List.drop_length, List.take_of_length_le (show (s.drop l).length ≤ s.length + 1 - l by rw [List.length_drop]; omega), List.take_of_length_le (show (s.drop l).length ≤ s.length - l by rw [List.length_drop]; omega)]
          · exact hGr.below (Below.mono hE2 (Nat.le_trans hbp (Nat.le_of_lt hBr.lt)))
        case measure => simp [intOf]
      · have hlt : i < s.length := by omega
        have hb := ba_get s i
        have hd := drop_next s hlt
        have hol : O.length ≤ s.length := by
          have := congrArg List.length HU.out
          rw [List.length_append] at this
          have := une_len s.length s (Nat.le_refl _)
          omega
        have HL := Lib.hid hol
        have ni : ((i : Int) != (s.length : Int)) = true := by simp; omega
        have g1 := hGr.gen
        obtain ⟨t, a, t1, b, c', G1, G2, G3, G4, G5, G6⟩ := g1
        have e1 := G1.c1
        clear hi1 hi2
        generalize hcc : s.getD i 0 = c at hb hd
        have HC := Lib.hid hcc
        have HD := Lib.hid hd
        have hcl := UInt8.toNat_lt c
        clear hd hcc
        by_cases c1 : c = 92
        · subst c1
          have hx0 := cut_from s i
          go_wp2_with fail
          apply wp_region_seq (l := [_, _, _, _, _, _, _, _, _]) (t := [_]) [some 35, some 36, some 37, some 38, some 39, some 40, some 41, some 42, some 43, some 13] [[], [], [], [1, 2], [0], [4], [3, 5], [6], [7], [8]] [9, 9, 9, 9, 9, 9, 9, 9, 9] [eqv _, eqv _, eqv _, eqv _, eqv _, eqv _, eqv _, eqv _, eqv _] (by kernel_rfl) (by kernel_rfl) ⟨?o0, ?o1, ?o2, ?o3, ?o4, ?o5, ?o6, ?o7, ?o8, trivial⟩ ?last
          case o0 => -- Op.move (Operand.tmp 0)
            intro xv V hE _
            simp only [putD, List.foldl_nil, List.getD_cons_zero]
            refine OpGoal.plain ?_
            go_wp2_with fail
            exact ⟨rfl, Ext.refl _, rfl⟩
          case o1 => -- Op.move (Operand.tmp 2)
            intro xv V hE _
            simp only [putD, List.foldl_nil, List.getD_cons_zero, List.getD_cons_succ]
            refine OpGoal.plain ?_
            go_wp2_with fail
            exact ⟨rfl, Ext.refl _, rfl⟩
          case o2 => -- Op.move (Operand.tmp 12)
            intro xv V hE _
            simp only [putD, List.foldl_nil, List.getD_cons_zero, List.getD_cons_succ]
            refine OpGoal.plain ?_
            go_wp2_with fail
            exact ⟨rfl, Ext.refl _, rfl⟩
          case o3 => -- Op.index 9 (Operand.tmp 36) (Operand.tmp 37)
            intro xv V hE hp
            have r1 : xv 1 = _ := hp.1
            have r2 : xv 2 = _ := hp.2.1
            clear hp
            simp only [putD, List.foldl_nil, List.foldl_cons, List.getD_cons_zero, List.getD_cons_succ, Act.put, List.setIfInBounds_toArray, List.set_cons_zero, List.set_cons_succ]
            refine OpGoal.plain ?_
            go_wp2_with fail
            exact ⟨rfl, Ext.refl _, rfl⟩
          case o4 => -- Op.nilCheck (Operand.tmp 35)
            intro xv V hE hp
            have r0 : xv 0 = _ := hp.1
            clear hp
            simp only [putD, List.foldl_nil, List.foldl_cons, List.getD_cons_zero, List.getD_cons_succ, Act.put, List.setIfInBounds_toArray, List.set_cons_zero, List.set_cons_succ]
            refine OpGoal.plain ?_
            go_wp2_with fail
            exact ⟨rfl, Ext.refl _, rfl⟩
          case o5 => -- Op.fieldAddr 169 (Operand.tmp 39) 2
            intro xv V hE hp
            have r4 : xv 4 = _ := hp.1
            clear hp
            simp only [putD, List.foldl_nil, List.foldl_cons, List.getD_cons_zero, List.getD_cons_succ, Act.put, List.setIfInBounds_toArray, List.set_cons_zero, List.set_cons_succ]
            refine OpGoal.plain ?_
            go_wp2_with fail
            exact ⟨rfl, Ext.refl _, rfl⟩
          case o6 => -- Op.indexAddr 131 (Operand.tmp 40) (Operand.tmp 38)
            intro xv V hE hp
            have r3 : xv 3 = _ := hp.1
            have r5 : xv 5 = _ := hp.2.1
            clear hp
            simp only [putD, List.foldl_nil, List.foldl_cons, List.getD_cons_zero, List.getD_cons_succ, Act.put, List.setIfInBounds_toArray, List.set_cons_zero, List.set_cons_succ]
            refine OpGoal.plain ?_
            go_wp2_with fail
            exact ⟨rfl, Ext.refl _, rfl⟩
          case o7 => -- Op.load 5 (Operand.tmp 41)
            intro xv V hE hp
            have r6 : xv 6 = _ := hp.1
            clear hp
            have km : V.cell? ⟨g, 98, none⟩ = some (.int .u8 0) := (G1.ext ((Ext.drew wo).trans hE)).map (i := 92) (by omega)
            simp only [putD, List.foldl_nil, List.foldl_cons, List.getD_cons_zero, List.getD_cons_succ, Act.put, List.setIfInBounds_toArray, List.set_cons_zero, List.set_cons_succ]
            refine OpGoal.plain ?_
            go_wp2_with fail
            exact ⟨rfl, Ext.refl _, rfl⟩
          case o8 => -- Op.convert 5 3 (Operand.tmp 42)
            intro xv V hE hp
            have r7 : xv 7 = _ := hp.1
            clear hp
            simp only [putD, List.foldl_nil, List.foldl_cons, List.getD_cons_zero, List.getD_cons_succ, Act.put, List.setIfInBounds_toArray, List.set_cons_zero, List.set_cons_succ]
            refine OpGoal.plain ?_
            go_wp2_with fail
            exact ⟨rfl, Ext.refl _, rfl⟩
          case last =>
            intro xv V hE hp
            have r0 : xv 0 = _ := hp.1
            have r1 : xv 1 = _ := hp.2.1
            have r2 : xv 2 = _ := hp.2.2.1
            have r3 : xv 3 = _ := hp.2.2.2.1
            have r4 : xv 4 = _ := hp.2.2.2.2.1
            have r5 : xv 5 = _ := hp.2.2.2.2.2.1
            have r6 : xv 6 = _ := hp.2.2.2.2.2.2.1
            have r7 : xv 7 = _ := hp.2.2.2.2.2.2.2.1
            have r8 : xv 8 = _ := hp.2.2.2.2.2.2.2.2.1
            clear hp
            simp only [putD, List.foldl_nil, List.foldl_cons, List.getD_cons_zero, List.getD_cons_succ, Act.put, List.length_cons, List.length_nil, List.range_succ, List.range_zero, List.nil_append, List.cons_append, List.setIfInBounds_toArray, List.set_cons_zero, List.set_cons_succ]
            have hx := (Ext.drew wo).trans hE
            have hxb := Below.trans hbr (Below.mono hx (Nat.le_trans hbp (Nat.le_of_lt hBr.lt)))
            have hG2 := hGr.below (Below.mono hx (Nat.le_trans hbp (Nat.le_of_lt hBr.lt)))
            have f5 := (G1.ext hx).c5
            have f4 := (G1.ext hx).c4
            have t0 := (G2.ext hx).c0
            go_wp2_with fail
            refine (lookup_any g (s.drop i) V hG2.gen (by rw [List.length_drop]; omega) (.inr ⟨_, HD.out⟩)).mono ?_
            rintro e V2 ⟨rfl, hE2⟩
            have HG0 := Lib.hid hG2
            rcases hr : s.drop (i + 1) with _ | ⟨d, r⟩
            · have hlk : lk (s.drop i) = ([], 0, false) := by rw [HD.out, hr]; rfl
              have hN : une (s.drop i) = s.getD i 0 :: une (s.drop (i + 1)) := by rw [HC.out, HD.out, hr]; simp [une]
              have HN := Lib.hid hN
              rw [hlk]
              clear hlk hN hr
              go_wp2_with fail
              go_roundw
              case rel =>
                have hB2 := Below.mono hE2 (Nat.le_trans hbp (Nat.le_of_lt (hBr.ext hx).lt))
                exact ⟨l, i + 1, O, m, by omega, h2, by omega, rfl, rfl, rfl, rfl, by go_num, step_none h1 hlt HU.out HN.out, (hBr.ext hx).ext hE2, Below.trans hxb hB2, HG0.out.below hB2⟩
              case measure => simp [intOf]; omega
            · by_cases d1 : d = 92
              · subst d1
                have hlk : lk (s.drop i) = ([92], 2, true) := by rw [HD.out, hr]; rfl
                have hun : une (s.drop i) = 92 :: une (s.drop (i + 2)) := by
                  rw [HD.out, hr, une_pair1]
                  have : s.drop (i + 2) = r := by
                    rw [show i + 2 = (i + 1) + 1 from rfl, ← List.drop_drop, hr]; rfl
                  rw [this]
                have hlen : i + 2 ≤ s.length := by have := congrArg List.length hr; rw [List.length_drop] at this; simp at this; omega
                have HN := Lib.hid hun
                rw [hlk]
                clear hlk hun hr
                have hBd := (hBr.ext (hx.trans hE2)).ext (Ext.drew V2)
                have hmid := cut_mid s l i
                have hmb : ((s.drop l).take (i - l)).length ≤ s.length := by rw [List.length_take, List.length_drop]; omega
                have hus := une_len s.length s (Nat.le_refl _)
                have hOM : O.length + ((s.drop l).take (i - l)).length ≤ s.length := by
                  have := congrArg List.length HU.out
                  rw [List.length_append, List.length_append] at this
                  omega
                have HUs := Lib.hid (step_some (v := 92) HU.out HN.out)
                generalize (s.drop l).take (i - l) = M at *
                go_wp2_with fail
                go_region_with (go_at_call 167; refine (wr_any base p O M _ hBd (by omega) hbp).mono ?_; rintro e w3 ⟨rfl, hB3, hb3⟩)
                go_wp2_with fail
                refine (wr_any base p (O ++ M) [92] w3 hB3 (by rw [List.length_append]; show _ + 1 < _; omega) hbp).mono ?_
                rintro e w4 ⟨rfl, hB4, hb4⟩
                go_wp2_with fail
                go_roundw
                case rel =>
                  have hbf := ((Below.trans hxb (Below.mono hE2 (Nat.le_trans hbp (Nat.le_of_lt (hBr.ext hx).lt)))).drew.trans hb3).trans hb4
                  refine ⟨i + 2, i + 2, O ++ M ++ [92], _, Nat.le_refl _, hlen, by omega, ?_, by go_num, rfl, rfl, by go_num, HUs.out, hB4, hbf, HG0.out.below (((Below.mono hE2 (Nat.le_trans hbp (Nat.le_of_lt (hBr.ext hx).lt))).drew.trans hb3).trans hb4)⟩
                  rw [List.length_append, List.length_append]; go_num
                case measure => simp [intOf]; omega
              · by_cases d2 : d = 110
                · subst d2
                  have hlk : lk (s.drop i) = ([10], 2, true) := by rw [HD.out, hr]; rfl
                  have hun : une (s.drop i) = 10 :: une (s.drop (i + 2)) := by
                    rw [HD.out, hr, une_pair2]
                    have : s.drop (i + 2) = r := by
                      rw [show i + 2 = (i + 1) + 1 from rfl, ← List.drop_drop, hr]; rfl
                    rw [this]
                  have hlen : i + 2 ≤ s.length := by have := congrArg List.length hr; rw [List.length_drop] at this; simp at this; omega
                  have HN := Lib.hid hun
                  rw [hlk]
                  clear hlk hun hr
                  have hBd := (hBr.ext (hx.trans hE2)).ext (Ext.drew V2)
                  have hmid := cut_mid s l i
                  have hmb : ((s.drop l).take (i - l)).length ≤ s.length := by rw [List.length_take, List.length_drop]; omega
                  have hus := une_len s.length s (Nat.le_refl _)
                  have hOM : O.length + ((s.drop l).take (i - l)).length ≤ s.length := by
                    have := congrArg List.length HU.out
                    rw [List.length_append, List.length_append] at this
                    omega
                  have HUs := Lib.hid (step_some (v := 10) HU.out HN.out)
                  generalize (s.drop l).take (i - l) = M at *
                  go_wp2_with fail
                  go_region_with (go_at_call 167; refine (wr_any base p O M _ hBd (by omega) hbp).mono ?_; rintro e w3 ⟨rfl, hB3, hb3⟩)
                  go_wp2_with fail
                  refine (wr_any base p (O ++ M) [10] w3 hB3 (by rw [List.length_append]; show _ + 1 < _; omega) hbp).mono ?_
                  rintro e w4 ⟨rfl, hB4, hb4⟩
                  go_wp2_with fail
                  go_roundw
                  case rel =>
                    have hbf := ((Below.trans hxb (Below.mono hE2 (Nat.le_trans hbp (Nat.le_of_lt (hBr.ext hx).lt)))).drew.trans hb3).trans hb4
                    refine ⟨i + 2, i + 2, O ++ M ++ [10], _, Nat.le_refl _, hlen, by omega, ?_, by go_num, rfl, rfl, by go_num, HUs.out, hB4, hbf, HG0.out.below (((Below.mono hE2 (Nat.le_trans hbp (Nat.le_of_lt (hBr.ext hx).lt))).drew.trans hb3).trans hb4)⟩
                    rw [List.length_append, List.length_append]; go_num
                  case measure => simp [intOf]; omega
                · have hlk : lk (s.drop i) = ([], 0, false) := by rw [HD.out, hr]; exact lk_else d1 d2 r
                  have hN : une (s.drop i) = s.getD i 0 :: une (s.drop (i + 1)) := by rw [HC.out, HD.out, hr]; exact une_else (fun h => d1 (by simpa using h.2)) (fun h => d2 (by simpa using h.2))
                  have HN := Lib.hid hN
                  rw [hlk]
                  clear hlk hN hr
                  go_wp2_with fail
                  go_roundw
                  case rel =>
                    have hB2 := Below.mono hE2 (Nat.le_trans hbp (Nat.le_of_lt (hBr.ext hx).lt))
                    exact ⟨l, i + 1, O, m, by omega, h2, by omega, rfl, rfl, rfl, rfl, by go_num, step_none h1 hlt HU.out HN.out, (hBr.ext hx).ext hE2, Below.trans hxb hB2, HG0.out.below hB2⟩
                  case measure => simp [intOf]; omega
        · by_cases c2 : c = 110
          · subst c2
            have HN : Hid (une (s.drop i) = s.getD i 0 :: une (s.drop (i + 1))) := Lib.hid (by rw [HC.out, HD.out, une_cons (by decide)])
            go_wp2_with fail
            apply wp_region_seq (l := [_, _, _, _, _, _, _, _, _]) (t := [_]) [some 35, some 36, some 37, some 38, some 39, some 40, some 41, some 42, some 43, some 13] [[], [], [], [1, 2], [0], [4], [3, 5], [6], [7], [8]] [9, 9, 9, 9, 9, 9, 9, 9, 9] [eqv _, eqv _, eqv _, eqv _, eqv _, eqv _, eqv _, eqv _, eqv _] (by kernel_rfl) (by kernel_rfl) ⟨?o0, ?o1, ?o2, ?o3, ?o4, ?o5, ?o6, ?o7, ?o8, trivial⟩ ?last
            case o0 => -- Op.move (Operand.tmp 0)
              intro xv V hE _
              simp only [putD, List.foldl_nil, List.getD_cons_zero]
              refine OpGoal.plain ?_
              go_wp2_with fail
              exact ⟨rfl, Ext.refl _, rfl⟩
            case o1 => -- Op.move (Operand.tmp 2)
              intro xv V hE _
              simp only [putD, List.foldl_nil, List.getD_cons_zero, List.getD_cons_succ]
              refine OpGoal.plain ?_
              go_wp2_with fail
              exact ⟨rfl, Ext.refl _, rfl⟩
            case o2 => -- Op.move (Operand.tmp 12)
              intro xv V hE _
              simp only [putD, List.foldl_nil, List.getD_cons_zero, List.getD_cons_succ]
              refine OpGoal.plain ?_
              go_wp2_with fail
              exact ⟨rfl, Ext.refl _, rfl⟩
            case o3 => -- Op.index 9 (Operand.tmp 36) (Operand.tmp 37)
              intro xv V hE hp
              have r1 : xv 1 = _ := hp.1
              have r2 : xv 2 = _ := hp.2.1
              clear hp
              simp only [putD, List.foldl_nil, List.foldl_cons, List.getD_cons_zero, List.getD_cons_succ, Act.put, List.setIfInBounds_toArray, List.set_cons_zero, List.set_cons_succ]
              refine OpGoal.plain ?_
              go_wp2_with fail
              exact ⟨rfl, Ext.refl _, rfl⟩
            case o4 => -- Op.nilCheck (Operand.tmp 35)
              intro xv V hE hp
              have r0 : xv 0 = _ := hp.1
              clear hp
              simp only [putD, List.foldl_nil, List.foldl_cons, List.getD_cons_zero, List.getD_cons_succ, Act.put, List.setIfInBounds_toArray, List.set_cons_zero, List.set_cons_succ]
              refine OpGoal.plain ?_
              go_wp2_with fail
              exact ⟨rfl, Ext.refl _, rfl⟩
            case o5 => -- Op.fieldAddr 169 (Operand.tmp 39) 2
              intro xv V hE hp
              have r4 : xv 4 = _ := hp.1
              clear hp
              simp only [putD, List.foldl_nil, List.foldl_cons, List.getD_cons_zero, List.getD_cons_succ, Act.put, List.setIfInBounds_toArray, List.set_cons_zero, List.set_cons_succ]
              refine OpGoal.plain ?_
              go_wp2_with fail
              exact ⟨rfl, Ext.refl _, rfl⟩
            case o6 => -- Op.indexAddr 131 (Operand.tmp 40) (Operand.tmp 38)
              intro xv V hE hp
              have r3 : xv 3 = _ := hp.1
              have r5 : xv 5 = _ := hp.2.1
              clear hp
              simp only [putD, List.foldl_nil, List.foldl_cons, List.getD_cons_zero, List.getD_cons_succ, Act.put, List.setIfInBounds_toArray, List.set_cons_zero, List.set_cons_succ]
              refine OpGoal.plain ?_
              go_wp2_with fail
              exact ⟨rfl, Ext.refl _, rfl⟩
            case o7 => -- Op.load 5 (Operand.tmp 41)
              intro xv V hE hp
              have r6 : xv 6 = _ := hp.1
              clear hp
              have km : V.cell? ⟨g, 116, none⟩ = some (.int .u8 1) := (G1.ext ((Ext.drew wo).trans hE)).map (i := 110) (by omega)
              simp only [putD, List.foldl_nil, List.foldl_cons, List.getD_cons_zero, List.getD_cons_succ, Act.put, List.setIfInBounds_toArray, List.set_cons_zero, List.set_cons_succ]
              refine OpGoal.plain ?_
              go_wp2_with fail
              exact ⟨rfl, Ext.refl _, rfl⟩
            case o8 => -- Op.convert 5 3 (Operand.tmp 42)
              intro xv V hE hp
              have r7 : xv 7 = _ := hp.1
              clear hp
              simp only [putD, List.foldl_nil, List.foldl_cons, List.getD_cons_zero, List.getD_cons_succ, Act.put, List.setIfInBounds_toArray, List.set_cons_zero, List.set_cons_succ]
              refine OpGoal.plain ?_
              go_wp2_with fail
              exact ⟨rfl, Ext.refl _, rfl⟩
            case last =>
              intro xv V hE hp
              have r0 : xv 0 = _ := hp.1
              have r1 : xv 1 = _ := hp.2.1
              have r2 : xv 2 = _ := hp.2.2.1
              have r3 : xv 3 = _ := hp.2.2.2.1
              have r4 : xv 4 = _ := hp.2.2.2.2.1
              have r5 : xv 5 = _ := hp.2.2.2.2.2.1
              have r6 : xv 6 = _ := hp.2.2.2.2.2.2.1
              have r7 : xv 7 = _ := hp.2.2.2.2.2.2.2.1
              have r8 : xv 8 = _ := hp.2.2.2.2.2.2.2.2.1
              clear hp
              simp only [putD, List.foldl_nil, List.foldl_cons, List.getD_cons_zero, List.getD_cons_succ, Act.put, List.length_cons, List.length_nil, List.range_succ, List.range_zero, List.nil_append, List.cons_append, List.setIfInBounds_toArray, List.set_cons_zero, List.set_cons_succ]
              have hx := (Ext.drew wo).trans hE
              have hxb := Below.trans hbr (Below.mono hx (Nat.le_trans hbp (Nat.le_of_lt hBr.lt)))
              have hG2 := hGr.below (Below.mono hx (Nat.le_trans hbp (Nat.le_of_lt hBr.lt)))
              have f5 := (G1.ext hx).c5
              have f4 := (G1.ext hx).c4
              have t0 := (G2.ext hx).c1
              go_wp2_with fail
              go_roundw
              case rel => exact ⟨l, i + 1, O, m, by omega, h2, by omega, rfl, rfl, rfl, rfl, by go_num, step_none h1 hlt HU.out HN.out, hBr.ext hx, hxb, hG2⟩
              case measure => simp [intOf]; omega
          · have HN : Hid (une (s.drop i) = s.getD i 0 :: une (s.drop (i + 1))) := Lib.hid (by rw [HC.out, HD.out, une_cons c1])
            have hf : fmp c.toNat = 2 := by
              unfold fmp
              rw [if_neg (show ¬ c.toNat = 92 from fun e => c1 (UInt8.toNat_inj.1 e)), if_neg (show ¬ c.toNat = 110 from fun e => c2 (UInt8.toNat_inj.1 e))]
            clear c1 c2
            go_wp2_with fail
            apply wp_region_seq (l := [_, _, _, _, _, _, _, _, _]) (t := [_]) [some 35, some 36, some 37, some 38, some 39, some 40, some 41, some 42, some 43, some 13] [[], [], [], [1, 2], [0], [4], [3, 5], [6], [7], [8]] [9, 9, 9, 9, 9, 9, 9, 9, 9] [eqv _, eqv _, eqv _, eqv _, eqv _, eqv _, eqv _, eqv _, eqv _] (by kernel_rfl) (by kernel_rfl) ⟨?o0, ?o1, ?o2, ?o3, ?o4, ?o5, ?o6, ?o7, ?o8, trivial⟩ ?last
            case o0 => -- Op.move (Operand.tmp 0)
              intro xv V hE _
              simp only [putD, List.foldl_nil, List.getD_cons_zero]
              refine OpGoal.plain ?_
              go_wp2_with fail
              exact ⟨rfl, Ext.refl _, rfl⟩
            case o1 => -- Op.move (Operand.tmp 2)
              intro xv V hE _
              simp only [putD, List.foldl_nil, List.getD_cons_zero, List.getD_cons_succ]
              refine OpGoal.plain ?_
              go_wp2_with fail
              exact ⟨rfl, Ext.refl _, rfl⟩
            case o2 => -- Op.move (Operand.tmp 12)
              intro xv V hE _
              simp only [putD, List.foldl_nil, List.getD_cons_zero, List.getD_cons_succ]
              refine OpGoal.plain ?_
              go_wp2_with fail
              exact ⟨rfl, Ext.refl _, rfl⟩
            case o3 => -- Op.index 9 (Operand.tmp 36) (Operand.tmp 37)
              intro xv V hE hp
              have r1 : xv 1 = _ := hp.1
              have r2 : xv 2 = _ := hp.2.1
              clear hp
              simp only [putD, List.foldl_nil, List.foldl_cons, List.getD_cons_zero, List.getD_cons_succ, Act.put, List.setIfInBounds_toArray, List.set_cons_zero, List.set_cons_succ]
              refine OpGoal.plain ?_
              go_wp2_with fail
              exact ⟨rfl, Ext.refl _, rfl⟩
            case o4 => -- Op.nilCheck (Operand.tmp 35)
              intro xv V hE hp
              have r0 : xv 0 = _ := hp.1
              clear hp
              simp only [putD, List.foldl_nil, List.foldl_cons, List.getD_cons_zero, List.getD_cons_succ, Act.put, List.setIfInBounds_toArray, List.set_cons_zero, List.set_cons_succ]
              refine OpGoal.plain ?_
              go_wp2_with fail
              exact ⟨rfl, Ext.refl _, rfl⟩
            case o5 => -- Op.fieldAddr 169 (Operand.tmp 39) 2
              intro xv V hE hp
              have r4 : xv 4 = _ := hp.1
              clear hp
              simp only [putD, List.foldl_nil, List.foldl_cons, List.getD_cons_zero, List.getD_cons_succ, Act.put, List.setIfInBounds_toArray, List.set_cons_zero, List.set_cons_succ]
              refine OpGoal.plain ?_
              go_wp2_with fail
              exact ⟨rfl, Ext.refl _, rfl⟩
            case o6 => -- Op.indexAddr 131 (Operand.tmp 40) (Operand.tmp 38)
              intro xv V hE hp
              have r3 : xv 3 = _ := hp.1
              have r5 : xv 5 = _ := hp.2.1
              clear hp
              simp only [putD, List.foldl_nil, List.foldl_cons, List.getD_cons_zero, List.getD_cons_succ, Act.put, List.setIfInBounds_toArray, List.set_cons_zero, List.set_cons_succ]
              refine OpGoal.plain ?_
              go_wp2_with fail
              exact ⟨rfl, Ext.refl _, rfl⟩
            case o7 => -- Op.load 5 (Operand.tmp 41)
              intro xv V hE hp
              have r6 : xv 6 = _ := hp.1
              clear hp
              have km := (G1.ext ((Ext.drew wo).trans hE)).map (i := c.toNat) (by omega); rw [hf] at km
              simp only [putD, List.foldl_nil, List.foldl_cons, List.getD_cons_zero, List.getD_cons_succ, Act.put, List.setIfInBounds_toArray, List.set_cons_zero, List.set_cons_succ]
              refine OpGoal.plain ?_
              go_wp2_with fail
              exact ⟨rfl, Ext.refl _, rfl⟩
            case o8 => -- Op.convert 5 3 (Operand.tmp 42)
              intro xv V hE hp
              have r7 : xv 7 = _ := hp.1
              clear hp
              simp only [putD, List.foldl_nil, List.foldl_cons, List.getD_cons_zero, List.getD_cons_succ, Act.put, List.setIfInBounds_toArray, List.set_cons_zero, List.set_cons_succ]
              refine OpGoal.plain ?_
              go_wp2_with fail
              exact ⟨rfl, Ext.refl _, rfl⟩
            case last =>
              intro xv V hE hp
              have r0 : xv 0 = _ := hp.1
              have r1 : xv 1 = _ := hp.2.1
              have r2 : xv 2 = _ := hp.2.2.1
              have r3 : xv 3 = _ := hp.2.2.2.1
              have r4 : xv 4 = _ := hp.2.2.2.2.1
              have r5 : xv 5 = _ := hp.2.2.2.2.2.1
              have r6 : xv 6 = _ := hp.2.2.2.2.2.2.1
              have r7 : xv 7 = _ := hp.2.2.2.2.2.2.2.1
              have r8 : xv 8 = _ := hp.2.2.2.2.2.2.2.2.1
              clear hp
              simp only [putD, List.foldl_nil, List.foldl_cons, List.getD_cons_zero, List.getD_cons_succ, Act.put, List.length_cons, List.length_nil, List.range_succ, List.range_zero, List.nil_append, List.cons_append, List.setIfInBounds_toArray, List.set_cons_zero, List.set_cons_succ]
              have hx := (Ext.drew wo).trans hE
              have hxb := Below.trans hbr (Below.mono hx (Nat.le_trans hbp (Nat.le_of_lt hBr.lt)))
              have hG2 := hGr.below (Below.mono hx (Nat.le_trans hbp (Nat.le_of_lt hBr.lt)))
              have f5 := (G1.ext hx).c5
              go_wp2_with fail
              go_roundw
              case rel => exact ⟨l, i + 1, O, m, by omega, h2, by omega, rfl, rfl, rfl, rfl, by go_num, step_none h1 hlt HU.out HN.out, hBr.ext hx, hxb, hG2⟩
              case measure => simp [intOf]; omega
end Go.Proofs.YthppcmejffdicaaGreatDoor

/- The generic replacer's Replace; show. -/
namespace Go.Proofs.YthppcmejffdicaaGreatDoor
open Go.RowKit Hach Num Jn

theorem ext_grown0 {w w' : World} (h : w.grownBy w' none) : Ext w w' := Below.grown (Below.refl _ w) h (Nat.le_refl _) (by intro k hk; cases hk)
theorem own_text {w : World} {base : Nat} {v : Value} {O : List UInt8} (h : w.ownsRow base 5 1 v O.length (O.map fun c => Value.int .u8 (c.toNat : Int))) :
    (convert 202 9 v).run Tryz.prog w = .ok (.string ⟨O.toArray⟩) w := by
  have h0 := h
  rcases h.2 with ⟨rfl, hn⟩ | ⟨g, cap, cur, rfl, hb, hg, r⟩
  · obtain rfl : O = [] := List.eq_nil_of_length_eq_zero hn
    exact Lib.run_convert_nil_bytes w 202 9 5 0 Tryz.underlying202 Tryz.underlying5 Tryz.underlying9
  · have hb : Lib.Bytes w g 0 ⟨O.toArray⟩ := fun i hi => by
      have hi' : i < O.length := by rw [← toArr_size]; exact hi
      have := World.ownsRow.cells h0 (g := g) rfl i (.int .u8 ((O[i]'hi').toNat : Int)) (by rw [List.getElem?_map, List.getElem?_eq_getElem hi']; rfl)
      have t2 : w.cell? ⟨g, i, none⟩ = some (.int .u8 ((O[i]'hi').toNat : Int)) := by simpa [Addr.add_lit] using this
      rw [Nat.zero_add]
      exact t2
    have := Lib.run_convert_whole (P := Tryz.prog) w 202 5 9 Tryz.underlying202 Tryz.underlying5 Tryz.underlying9 g 0 ⟨O.toArray⟩ hb cap
    rw [toArr_size] at this
    exact this

set_option maxRecDepth 100000 in
set_option maxHeartbeats 1000000 in
theorem gr_any (g : Nat) (s : List UInt8) (w : World) (hG : Gen w g) (hs : s.length < 1073741824) :
    Calls Tryz.prog 157 #[.pointer (some ⟨g, 0, none⟩), .string ⟨s.toArray⟩] w fun e w' => e = .returned (.string ⟨(une s).toArray⟩) ∧ Ext w w' := by
  have hsz := toArr_size s
  have hgb := hG.genB
  obtain ⟨i0, hi, hz0, hz1, hz2⟩ := info_parts infoU
  go_enter Tryz.func157, Tryz.ntmps157
  go_wp2_with (refine wpList_make_own (o := ⟨some 8, _, _, _, _, _⟩) w rfl _ _ 202 rfl w.heap.size 5 i0 (.int .u8 0) 1 Tryz.underlying202 hi hz0 hz1 _ _ _ s.length rfl rfl rfl (by rw [hz2]; omega) (by simp only [maxLen]; omega) (Nat.le_refl _) ?_; intro w1 hO1 hg1)
  have hE1 : Ext w w1 := ext_grown0 hg1
  have hB0 : Buf (w1.alloc (.cells #[.slice (some ⟨w.heap.size, 0, none⟩) 0 s.length] 202)) w.heap.size w1.heap.size [] :=
    ⟨_, Array.getElem?_push_size, World.ownsRow.kept hO1 (grown_of_ext (Ext.alloc w1 _)) (by right; simp [Value.ownBlock])⟩
  have hE2 : Ext w (w1.alloc (.cells #[.slice (some ⟨w.heap.size, 0, none⟩) 0 s.length] 202)) := hE1.trans (Ext.alloc _ _)
  refine (ws_any g w1.heap.size w.heap.size s _ (hgb.below hE2) hB0 hs hE1.sz).mono ?_
  rintro e w2 ⟨⟨v0, rfl⟩, ⟨v, hv, hO⟩, hb⟩
  obtain ⟨A, m, c, rfl⟩ := row_form hO
  have cp : w2.cell? ⟨w1.heap.size, 0, none⟩ = some (.slice A m c) := by simp [World.cell?, hv]
  have hcv := own_text hO
  go_wp2_with fail
  go_ret
  exact ⟨rfl, Below.trans hE2 hb⟩

theorem GR.c0 {w : World} {g : Nat} {tab : Value} {sz : Int} {m : Nat → Int} (h : GR w g tab sz m) : w.cell? ⟨g, 0, none⟩ = some (.string ⟨#[]⟩) := World.rowIs.cell h (i := 0) (by omega)
theorem Gen.but {w w' : World} {g b : Nat} {m : Int} {r o : Value} (h : Gen w g) (hb : Rpl w b m r o) (hC : ∀ k : Nat, k ≠ b → w'.heap[k]? = w.heap[k]?) : Gen w' g := by
  obtain ⟨t, a, t1, x, c, h1, h2, h3, h4, h5, h6⟩ := h
  exact ⟨t, a, t1, x, c, h1.block (hC _ (cell_ne hb h1.c0 (by simp))), h2.block (hC _ (cell_ne hb h2.c0 (by simp))), h3.of_block (hC _ (cell_ne hb h3.cell.1 (by simp))), h4.block (hC _ (cell_ne hb h4.c0 (by simp))), h5.of_block (hC _ (cell_ne hb h5.cell.1 (by simp))), h6.of_block (hC _ (cell_ne hb h6.cell.1 (by simp)))⟩
theorem Gen.set {w : World} {g b : Nat} {m : Int} {r o : Value} (h : Gen w g) (hb : Rpl w b m r o) (i : Nat) (v : Value) : Gen (w.setCell ⟨b, i, none⟩ v) g :=
  h.but hb fun k hk => Below.heap_setCell _ _ _ k hk
theorem Gen.done {w : World} {g b : Nat} {m : Int} {r o : Value} (h : Gen w g) (hb : Rpl w b m r o) : Gen ((w.drew.setCell ⟨b, 0, none⟩ (.int .u32 1)).setCell ⟨b, 1, none⟩ (.int .i32 0)) g :=
  h.but hb fun k hk => (Below.heap_setCell _ _ _ k hk).trans (Below.heap_setCell _ _ _ k hk)

set_option maxRecDepth 100000 in
set_option maxHeartbeats 1000000 in
theorem build_show (b o cap : Nat) (w : World) (hb : w.cell? ⟨b, 4, none⟩ = some (.slice (some ⟨o, 0, none⟩) 4 cap)) (hF : Four w o ⟨#[92, 92]⟩ ⟨#[92]⟩ ⟨#[92, 110]⟩ ⟨#[10]⟩) :
    Calls Tryz.prog 85 #[.pointer (some ⟨b, 0, none⟩)] w fun e w' => ∃ g, e = .returned (.iface 142 (.pointer (some ⟨g, 0, none⟩))) ∧ Ext w w' ∧ w.heap.size ≤ g ∧ Gen w' g := by
  have hF0 := hF
  obtain ⟨ho, h0, h1, h2, h3⟩ := hF
  go_enter Tryz.func85, Tryz.ntmps85
  go_wp2_with fail
  go_loop [5] (fun i => i = .int .i64 0) (fun _ => 0)
  case atStart => rfl
  case round =>
    subst hrel
    go_wp2_with fail
    refine (mkgen_any o cap w hF0).mono ?_
    rintro e w1 ⟨g, rfl, hE, hg, hG⟩
    go_wp2_with fail
    go_ret
    exact ⟨g, rfl, hE, hg, hG⟩

theorem buildOnce_s (b o c : Nat) (w : World) (r : Value) (h : Rpl w b 1 r (.slice (some ⟨o, 0, none⟩) 4 c)) (hF : Four w o ⟨#[92, 92]⟩ ⟨#[92]⟩ ⟨#[92, 110]⟩ ⟨#[10]⟩) :
    Calls Tryz.prog 76 #[.pointer (some ⟨b, 0, none⟩)] w fun e w' => e = .returned (.tuple #[]) ∧ ∃ r', Rpl w' b 1 r' (.slice none 0 0) ∧ ∃ g, r' = .iface 142 (.pointer (some ⟨g, 0, none⟩)) ∧ Gen w' g ∧ Below b w w' := by
  obtain ⟨c0, c1, c3, c4⟩ := h.cell
  go_enter Tryz.func76, Tryz.ntmps76
  go_wp2_with fail
  refine (build_show b o c w c4 hF).mono ?_
  rintro e w1 ⟨g, rfl, hE, hg, hB⟩
  have h1 := h.ext hE
  have e3 := h1.cell.2.2.1
  have z3 := h1.fz 3
  have e4 := h1.cell.2.2.2
  have z4 := h1.fz 4
  go_wp2_with fail
  go_end0
  refine ⟨rfl, _, (h1.built _).gone _, g, rfl, (hB.set h1 3 _).set (h1.built _) 4 _, ?_⟩
  exact ((Below.mono hE (Nat.le_of_lt h.lt)).setCell (by exact Nat.le_refl b) _).setCell (by exact Nat.le_refl b) _
theorem method_s (g : Nat) (w : World) : (method 315 142 (.pointer (some ⟨g, 0, none⟩)) "Replace").run Tryz.prog w = .ok (157, .pointer (some ⟨g, 0, none⟩)) w := by kernel_rfl

set_option maxRecDepth 100000 in
set_option maxHeartbeats 1000000 in
theorem replace_s (b o c : Nat) (s : List UInt8) (hs : s.length < 1073741824) (w : World) (h : Rpl w b 0 .nilIface (.slice (some ⟨o, 0, none⟩) 4 c)) (ho : o < b) (hF : Four w o ⟨#[92, 92]⟩ ⟨#[92]⟩ ⟨#[92, 110]⟩ ⟨#[10]⟩) :
    Calls Tryz.prog 65 #[.pointer (some ⟨b, 0, none⟩), .string ⟨s.toArray⟩] w fun e w' => e = .returned (.string ⟨(une s).toArray⟩) ∧ Below b w w' := by
  have hmf : ∀ (fn : Fn) (first cap : Array Value) (w : World), (Instr.makeFunc fn first cap).run Tryz.prog w = .ok (.func fn first cap) w := fun _ _ _ _ => rfl
  have hF1 : Four (w.setCell ⟨b, 1, none⟩ (.int .i32 1)) o ⟨#[92, 92]⟩ ⟨#[92]⟩ ⟨#[92, 110]⟩ ⟨#[10]⟩ := by
    have hn : o ≠ b := by omega
    exact ⟨by rw [setCell_size]; exact hF.lt, (set_but w b 1 _ _ hn).trans hF.c0, (set_but w b 1 _ _ hn).trans hF.c1, (set_but w b 1 _ _ hn).trans hF.c2, (set_but w b 1 _ _ hn).trans hF.c3⟩
  have hm := fun (g : Nat) (w : World) => method_s g w
  have hbo := buildOnce_s b o c _ _ (h.lock 1) hF1
  go_enter Tryz.func65, Tryz.ntmps65
  go_wp2_with fail
  refine (do_of b w _ _ _ (fun r' w' => ∃ g, r' = .iface 142 (.pointer (some ⟨g, 0, none⟩)) ∧ Gen w' g ∧ Below b (w.setCell ⟨b, 1, none⟩ (.int .i32 1)) w') h hbo).mono ?_
  rintro e w1 ⟨rfl, r', w2, hR, ⟨g, rfl, hB, hW⟩, rfl⟩
  have hB2 := hB.done hR
  have hc := done_cell hR
  have hW2 : Below b w ((w2.drew.setCell ⟨b, 0, none⟩ (.int .u32 1)).setCell ⟨b, 1, none⟩ (.int .i32 0)) := done_below (((Below.refl b w).setCell (by exact Nat.le_refl b) _).trans hW) (Nat.le_refl b)
  have hsz : b < ((w2.drew.setCell ⟨b, 0, none⟩ (.int .u32 1)).setCell ⟨b, 1, none⟩ (.int .i32 0)).heap.size := by rw [done_size]; exact hR.lt
  generalize (w2.drew.setCell ⟨b, 0, none⟩ (.int .u32 1)).setCell ⟨b, 1, none⟩ (.int .i32 0) = V at *
  go_wp2_with fail
  refine (gr_any g s V hB2 hs).mono ?_
  rintro e w3 ⟨rfl, hE3⟩
  go_wp2_with fail
  go_ret
  exact ⟨rfl, hW2.trans (Below.mono hE3 (Nat.le_of_lt hsz))⟩

set_option maxHeartbeats 1000000 in
theorem show_any (s : List UInt8) (hs : s.length < 1073741824) (w : World) :
    Calls Tryz.prog 55 #[.string ⟨s.toArray⟩] w fun e w' => e = .returned (.string ⟨(une s).toArray⟩) ∧ Ext w w' := by
  go_enter Tryz.func55, Tryz.ntmps55
  go_wp2_with fail
  have hF := four_new w ⟨#[92, 92]⟩ ⟨#[92]⟩ ⟨#[92, 110]⟩ ⟨#[10]⟩
  have hE0 := Ext.alloc w (.cells #[.string ⟨#[92, 92]⟩, .string ⟨#[92]⟩, .string ⟨#[92, 110]⟩, .string ⟨#[10]⟩] 9)
  refine (newrep_any w.heap.size _ _ _ _ _ hF).mono ?_
  rintro e w1 ⟨b, o, c, rfl, hE1, hb, ho, hR, hF1⟩
  have hwb : w.heap.size ≤ b := Nat.le_trans hE0.sz hb
  have hE := hE0.trans hE1
  go_wp2_with fail
  refine (replace_s b o c s hs w1 hR ho hF1).mono ?_
  rintro e w2 ⟨rfl, hB⟩
  go_wp2_with fail
  go_ret
  exact ⟨rfl, Below.trans hE (hB.mono hwb)⟩
end Go.Proofs.YthppcmejffdicaaGreatDoor

/- The contract of the program's Append. -/
namespace Go.Proofs.YthppcmejffdicaaGreatDoor
open Go.RowKit Hach Num Jn

theorem line_lt (s : List UInt8) (hs : s.length < 16777216) : (line s).length < 67108864 := by
  have h1 := esc_len s
  have h2 := head_len (s := s) (by omega)
  have h3 : (hexl (dgl s)).length = 16 := by rw [hexl_len, dgl_length]
  unfold line
  simp only [List.length_append, List.length_cons, List.length_nil, h3]; omega

set_option maxHeartbeats 1000000 in
theorem appendP_any (b bd n : Nat) (d : Dk) (br : Bool) (s : List UInt8) (w : World) (hL : LgAt 62 w b (some bd) n br) (hD : DkAt 65 w bd d) (hne : b ≠ bd) (hk : DkOk d) (hs : s.length < 16777216) (ht : d.text.length < 1073741824) (hn : n < 1073741824) (hT : Tabs w) :
    Calls Tryz.prog 25 #[.pointer (some ⟨b, 0, none⟩), .string ⟨s.toArray⟩] w fun e w' => e = .returned (.int .i64 (appRes d n br (line s)).1) ∧ DkAt 65 w' bd (appRes d n br (line s)).2.1 ∧ LgAt 62 w' b (some bd) (appRes d n br (line s)).2.2.1 (appRes d n br (line s)).2.2.2 ∧ KB [b, bd] w w' := by
  obtain ⟨c0, c1, c2⟩ := hL.cell
  simp only [Option.map_some] at c0
  have hll := line_lt s hs
  go_enter Tryz.func25, Tryz.ntmps25
  go_wp2_with fail
  refine (lineP_any s hs w hT).mono ?_
  rintro e w1 ⟨rfl, hE1⟩
  have hL1 := hL.ext hE1
  have hD1 := hD.ext hE1
  obtain ⟨k0, k1, k2⟩ := hL1.cell
  simp only [Option.map_some] at k0
  obtain ⟨d0, _, _, _, _⟩ := hD1.cell
  have hz1 := toArr_size d.text
  have hz2 := toArr_size (line s)
  obtain ⟨ln, hln⟩ : ∃ ln, line s = ln := ⟨_, rfl⟩
  rw [hln] at hll hz2
  rw [hln]
  have HLN := Lib.hid hln
  clear hln
  cases br with
  | true =>
    go_wp2_with fail
    go_ret
    exact ⟨rfl, hD1, hL1, KB.ext hE1⟩
  | false =>
    by_cases hbig : 262144 < d.text.length + ln.length
    · have hr : appRes d n false ln = (2, d, n, false) := by unfold appRes; simp [hbig]
      have tb : decide ((262144 : Int) < (d.text.length : Int) + (ln.length : Nat)) = true := by rw [decide_eq_true_iff]; omega
      have HR := Lib.hid hr
      clear hbig hr
      go_wp2_with fail
      go_ret
      rw [HLN.out, HR.out]
      exact ⟨rfl, hD1, hL1, KB.ext hE1⟩
    · have tb : decide ((262144 : Int) < (d.text.length : Int) + (ln.length : Nat)) = false := by rw [decide_eq_false_iff_not]; omega
      have hr : appRes d n false ln = if (d.put ln).1 then (0, (d.put ln).2, n + 1, false) else (63, (d.put ln).2, n, true) := by
        unfold appRes
        simp only [Bool.false_eq_true, if_false, if_neg hbig]
      clear hbig
      have hpu := putP_any b bd n d false ln w1 hL1 hD1 hne hk (by omega)
      obtain ⟨ok, d2, he⟩ : ∃ ok d2, d.put ln = (ok, d2) := ⟨_, _, rfl⟩
      rw [he] at hpu hr
      simp only at hpu hr
      have HW := Lib.hid hpu
      have HR := Lib.hid hr
      clear he hpu hr
      go_wp2_with fail
      refine HW.out.mono ?_
      rintro e w2 ⟨rfl, hD2, hg2⟩
      have hL2 := hL1.own hg2 (by simp; exact hne)
      obtain ⟨l0, l1, l2⟩ := hL2.cell
      simp only [Option.map_some] at l0
      have f1 := hL2.free 1
      have f2 := hL2.free 2
      have hkb2 : KB [b, bd] w w2 := (KB.ext hE1).trans (KB.grown hg2 (by simp))
      cases ok with
      | false =>
        go_wp2_with fail
        go_ret
        rw [HLN.out, HR.out]
        exact ⟨rfl, hD2.own (grown_set w2 b 2 _) (by simp; exact fun e => hne e.symm), heap_setCell_same w2 b 2 _ _ (.bool true) hL2, hkb2.trans (KB.grown (grown_set w2 b 2 _) (by simp))⟩
      | true =>
        go_wp2_with fail
        go_ret
        rw [HLN.out, HR.out]
        exact ⟨rfl, hD2.own (grown_set w2 b 1 _) (by simp; exact fun e => hne e.symm), heap_setCell_same w2 b 1 _ _ (.int .i64 ((n : Int) + 1)) hL2, hkb2.trans (KB.grown (grown_set w2 b 1 _) (by simp))⟩
end Go.Proofs.YthppcmejffdicaaGreatDoor
