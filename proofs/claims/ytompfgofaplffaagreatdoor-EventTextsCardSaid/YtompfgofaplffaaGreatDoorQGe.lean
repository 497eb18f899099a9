/- The reference's Parse. -/
import Derived.Test.YtompfgofaplffaaGreatDoorQGd
set_option linter.unusedSimpArgs false
set_option linter.unusedVariables false
namespace Go.Proofs.YtompfgofaplffaaGreatDoor
open Go.RowKit Hach Num

theorem bytes_beq (s s' : List UInt8) : ((⟨s.toArray⟩ : ByteArray).toList == (⟨s'.toArray⟩ : ByteArray).toList) = decide (s = s') := by
  rw [ByteArray.toList_eq, ByteArray.toList_eq]
  by_cases h : s = s' <;> simp [h]
theorem ba_list (s : ByteArray) : (⟨s.data.toList.toArray⟩ : ByteArray) = s := by cases s; simp
theorem ba_beq (l : List UInt8) (s : ByteArray) : ((⟨l.toArray⟩ : ByteArray).toList == s.toList) = decide (l = s.data.toList) := by
  conv => lhs; rw [← ba_list s]
  exact bytes_beq _ _
/-- What reading gives. -/
def resV (o : Option Ev) : Value := .tuple #[.agg (o.getD zeroEv).cells.toArray, .bool o.isSome]
def kkR (w0 : List UInt8) : Nat → Int
  | 0 => 0
  | k + 1 => if w0 = wordK ((k : Int) + 1) then (k : Int) + 1 else kkR w0 k
theorem kkR_four (w0 : List UInt8) : kkR w0 4 = kindR w0 := by
  have e0 : wordK ((0 : Int) + 1) = wDrop := rfl
  have e1 : wordK ((1 : Int) + 1) = wFuse := rfl
  have e2 : wordK ((2 : Int) + 1) = wThin := rfl
  have e3 : wordK ((3 : Int) + 1) = wGath := rfl
  have d1 : wDrop ≠ wFuse := by decide
  have d2 : wDrop ≠ wThin := by decide
  have d3 : wDrop ≠ wGath := by decide
  have d4 : wFuse ≠ wThin := by decide
  have d5 : wFuse ≠ wGath := by decide
  have d6 : wThin ≠ wGath := by decide
  unfold kindR idxK
  show (if w0 = wordK ((3 : Int) + 1) then (3 : Int) + 1 else if w0 = wordK ((2 : Int) + 1) then (2 : Int) + 1 else if w0 = wordK ((1 : Int) + 1) then (1 : Int) + 1 else if w0 = wordK ((0 : Int) + 1) then (0 : Int) + 1 else 0) = _
  rw [e0, e1, e2, e3]
  by_cases h0 : w0 = wDrop
  · subst h0; simp [d1, d2, d3]
  · by_cases h1 : w0 = wFuse
    · subst h1; simp [h0, d4, d5]
    · by_cases h2 : w0 = wThin
      · subst h2; simp [h0, h1, d6]
      · by_cases h3 : w0 = wGath
        · subst h3; simp [h0, h1, h2]
        · simp [h0, h1, h2, h3]
theorem kkR_range (w0 : List UInt8) : ∀ k, 0 ≤ kkR w0 k ∧ kkR w0 k ≤ k
  | 0 => ⟨Int.le_refl _, Int.le_refl _⟩
  | k + 1 => by
    have := kkR_range w0 k
    unfold kkR
    split <;> omega
theorem EvBlk.fro {w : World} {b : Nat} {e : Ev} (h : EvBlk w b e) (i : Nat) : w.frozen? ⟨b, i, none⟩ = false := by unfold EvBlk at h; simp [World.frozen?, h]
theorem EvBlk.set {w : World} {b : Nat} {e e' : Ev} (h : EvBlk w b e) (i : Nat) (x : Int) (he : e'.cells = e.cells.set i (.int .i64 x)) : EvBlk (w.setCell ⟨b, i, none⟩ (.int .i64 x)) b e' := by
  unfold EvBlk at h ⊢
  simp only [World.setCell, Array.getElem?_modify, if_pos, h, Option.map_some]
  have : (#[.int .i64 e'.kind, .int .i64 e'.at_, .int .i64 e'.id, .int .i64 e'.other, .int .i64 e'.n] : Array Value) = e'.cells.toArray := rfl
  rw [this, he]
  have e2 : (#[.int .i64 e.kind, .int .i64 e.at_, .int .i64 e.id, .int .i64 e.other, .int .i64 e.n] : Array Value) = e.cells.toArray := rfl
  rw [e2]
  simp
theorem EvBlk.kind {w : World} {b : Nat} {e : Ev} (h : EvBlk w b e) (x : Int) : EvBlk (w.setCell ⟨b, 0, none⟩ (.int .i64 x)) b { e with kind := x } := h.set 0 x rfl
theorem EvBlk.at_ {w : World} {b : Nat} {e : Ev} (h : EvBlk w b e) (x : Int) : EvBlk (w.setCell ⟨b, 1, none⟩ (.int .i64 x)) b { e with at_ := x } := h.set 1 x rfl
theorem EvBlk.id {w : World} {b : Nat} {e : Ev} (h : EvBlk w b e) (x : Int) : EvBlk (w.setCell ⟨b, 2, none⟩ (.int .i64 x)) b { e with id := x } := h.set 2 x rfl
theorem EvBlk.other {w : World} {b : Nat} {e : Ev} (h : EvBlk w b e) (x : Int) : EvBlk (w.setCell ⟨b, 3, none⟩ (.int .i64 x)) b { e with other := x } := h.set 3 x rfl
theorem EvBlk.n {w : World} {b : Nat} {e : Ev} (h : EvBlk w b e) (x : Int) : EvBlk (w.setCell ⟨b, 4, none⟩ (.int .i64 x)) b { e with n := x } := h.set 4 x rfl
theorem EvBlk.over {w w' : World} {b g : Nat} {e : Ev} (h : EvBlk w b e) (hg : w.grownBy w' (some g)) (hne : g ≠ b) : EvBlk w' b e := by
  have hlt : b < w.heap.size := (Array.getElem?_eq_some_iff.1 h).1
  exact (hg.block b hlt (fun e => hne (by simpa using e.symm))).trans h
/-- Four words in a block. -/
def w4S : SP := ⟨fun v W => ∃ g, v = .slice (some ⟨g, 0, none⟩) 4 4 ∧ StrRow W g [wDrop, wFuse, wThin, wGath], fun h hE => by
  obtain ⟨g, e, h1⟩ := h
  exact ⟨g, e, h1.keep hE⟩⟩
def w4P (k : Nat) : SP := ⟨fun v W => ∃ g, v = .pointer (some ⟨g, k, none⟩) ∧ StrRow W g [wDrop, wFuse, wThin, wGath], fun h hE => by
  obtain ⟨g, e, h1⟩ := h
  exact ⟨g, e, h1.keep hE⟩⟩
theorem w4_at (k : Nat) (hk : k < 4) : ([wDrop, wFuse, wThin, wGath] : List (List UInt8)).getD k [] = wordK ((k : Int) + 1) := by
  obtain rfl | rfl | rfl | rfl : k = 0 ∨ k = 1 ∨ k = 2 ∨ k = 3 := by omega
  all_goals rfl
set_option maxRecDepth 100000 in
set_option maxHeartbeats 8000000 in
theorem rparse_any (s : ByteArray) (w : World) (hz : s.size < 4294967290) :
    Calls Tryz.prog 11 #[.string s] w fun r w' => (∃ o, Reads s.data.toList o ∧ r = .returned (resV o)) ∧ Ext w w' := by
  have HW : Hid (∀ W, Calls Tryz.prog 27 #[.string s] W fun e w' => (∃ v, e = .returned v ∧ OwnS w' W.heap.size v (wds s.data.toList)) ∧ Ext W w') := Lib.hid (fun W => words_any s W hz)
  have HBAD := Lib.hid (fun h => reads_bad (s := s.data.toList) h)
  have HGOOD := Lib.hid (fun h => reads_r (s := s.data.toList) h)
  have hR0 : EvBlk (w.alloc (.cells #[.int .i64 0, .int .i64 0, .int .i64 0, .int .i64 0, .int .i64 0] 23)) w.heap.size zeroEv := Go.heap_alloc_new w _
  have HR0 := Lib.hid hR0
  have HE0 := Lib.hid (Ext.alloc w (.cells #[.int .i64 0, .int .i64 0, .int .i64 0, .int .i64 0, .int .i64 0] 23))
  clear hR0
  go_enter Tryz.func11, Tryz.ntmps11
  go_wp2_with fail
  refine (HW.out _).mono ?_
  rintro r w1 ⟨⟨v, rfl, hO⟩, hE1⟩
  have hne := wds_ne s.data.toList
  have hlen := wds_len s.data.toList
  have hpart := wds_part s.data.toList
  obtain ⟨ws, hws⟩ : ∃ ws, wds s.data.toList = ws := ⟨_, rfl⟩
  rw [hws] at hO hne hlen hpart
  have HWS := Lib.hid hws
  clear hws
  rcases hO.form with ⟨h0, _⟩ | ⟨g, c, rfl, hbg, hgs, hnc, hcm, hrow, _⟩
  · exact absurd h0 hne
  have hsz : s.data.toList.length = s.size := by simp
  have hR1 := HR0.out.ext hE1
  have HEW1 := Lib.hid (Ext.trans HE0.out hE1)
  have hpos : 0 < ws.length := List.length_pos_iff.2 hne
  have HR1 := Lib.hid hR1
  have HROW := Lib.hid (fun W (h : Ext w1 W) => hrow.keep h)
  have HPART := Lib.hid hpart
  have hE0B : EvBlk (w1.alloc (.cells #[.int .i64 0, .int .i64 0, .int .i64 0, .int .i64 0, .int .i64 0] 23)) w1.heap.size zeroEv := Go.heap_alloc_new w1 _
  have HEB := Lib.hid hE0B
  have HX1 := Lib.hid (Ext.alloc w1 (.cells #[.int .i64 0, .int .i64 0, .int .i64 0, .int .i64 0, .int .i64 0] 23))
  have HRlt : Hid (w.heap.size < w1.heap.size) := Lib.hid ((Array.getElem?_eq_some_iff.1 hR1).1)
  have hwl : ws.length ≤ 4294967296 := by omega
  have hgE : ¬ g = w1.heap.size := by omega
  clear hO hne hlen hpart hbg hgs hnc hcm hrow hR1 hE1 hE0B
  go_wp2_with fail
  go_loopw [6] (fun s6 wr => ∃ k : Nat, k ≤ 4 ∧ s6 = .int .i64 k ∧ Hid (EvBlk wr w1.heap.size ⟨kkR (ws.getD 0 []) k, 0, 0, 0, 0⟩) ∧ Hid (Ext w1 wr)) (fun s6 _ => 4 - (intOf s6).toNat)
  case atStart => exact ⟨0, by omega, rfl, HEB, HX1⟩
  case round =>
    obtain ⟨k, hk, rfl, hB, hE⟩ := hrel
    by_cases hlt : k < 4
    · have t : decide ((k : Int) < 4) = true := by simp; omega
      have e4 : IntKind.i64.wrap ((k : Int) + 1) = ((k + 1 : Nat) : Int) := by rw [IntWalk.i64_in _ (by omega)]; omega
      have HQ := Lib.hid (fun W (h : Ext wr.drew W) => HROW.out W (Ext.trans hE.out (Ext.trans (Ext.drew wr) h)) 0 hpos)
      obtain ⟨S0, hS0⟩ : ∃ S : ByteArray, ⟨(ws.getD 0 []).toArray⟩ = S := ⟨_, rfl⟩
      obtain ⟨Sk, hSk⟩ : ∃ S : ByteArray, ⟨(wordK ((k : Int) + 1)).toArray⟩ = S := ⟨_, rfl⟩
      have hcmp : (S0.toList == Sk.toList) = decide (ws.getD 0 [] = wordK ((k : Int) + 1)) := by rw [← hS0, ← hSk]; exact bytes_beq _ _
      have hkk : kkR (ws.getD 0 []) (k + 1) = if ws.getD 0 [] = wordK ((k : Int) + 1) then (k : Int) + 1 else kkR (ws.getD 0 []) k := rfl
      have hw4 : Hid (strV (([wDrop, wFuse, wThin, wGath] : List (List UInt8)).getD k []) = .string Sk) := Lib.hid (by rw [w4_at k hlt, ← hSk]; rfl)
      unfold strV at HQ
      rw [hS0] at HQ
      have HKK := Lib.hid hkk
      have HB := hB
      have HE := hE
      have hlc : (k : Int) < 4 := by omega
      clear hkk hS0 hSk hB hE
      generalize hcq : decide (ws.getD 0 [] = wordK ((k : Int) + 1)) = q at *
      have HCQ := Lib.hid hcq
      clear hcq
      go_wp2_with fail
      apply wp_region_seq (l := [_, _, _, _, _, _, _, _]) (t := []) [some 13, some 14, some 15, some 16, some 17, some 18, some 19, some 20] [[], [0], [1], [], [], [3, 4], [5], [2, 6]] [] [eqv _, (eqv (.pointer (some ⟨g, 0, none⟩))), (eqv (.string S0)), (w4S), eqv _, (w4P k), (eqv (.string Sk)), (eqv (.bool q))] (by kernel_rfl) (by kernel_rfl) ⟨?o0, ?o1, ?o2, ?o3, ?o4, ?o5, ?o6, ?o7, trivial⟩ ?last
      case o0 => -- Op.move (Operand.tmp 4)
        intro xv W hE _
        simp only [putD, List.foldl_nil, List.getD_cons_zero]
        refine OpGoal.plain ?_
        go_wp2_with fail
        exact ⟨rfl, Ext.refl _, rfl⟩
      case o1 => -- Op.indexAddr 31 (Operand.tmp 13) (Operand.const (Value.int IntKind.i64 0))
        intro xv W hE hp
        have r0 : xv 0 = _ := hp.1
        clear hp
        simp only [putD, List.foldl_nil, List.foldl_cons, List.getD_cons_zero, List.getD_cons_succ, Act.put, List.setIfInBounds_toArray, List.set_cons_zero, List.set_cons_succ]
        refine OpGoal.plain ?_
        go_wp2_with fail
        exact ⟨rfl, Ext.refl _, rfl⟩
      case o2 => -- Op.load 9 (Operand.tmp 14)
        intro xv W hE hp
        have r1 : xv 1 = _ := hp.1
        clear hp
        have c0 := HQ.out W hE
        simp only [putD, List.foldl_nil, List.foldl_cons, List.getD_cons_zero, List.getD_cons_succ, Act.put, List.setIfInBounds_toArray, List.set_cons_zero, List.set_cons_succ]
        refine OpGoal.plain ?_
        go_wp2_with fail
        exact ⟨rfl, Ext.refl _, rfl⟩
      case o3 => -- Op.buildSlice 31 4 #[(0, Operand.const (Value.string { data := #[100, 114, 111, 
        intro xv W hE _
        simp only [putD, List.foldl_nil, List.getD_cons_zero, List.getD_cons_succ]
        refine OpGoal.plain ?_
        go_wp2_with fail
        exact ⟨rfl, Ext.alloc _ _, W.heap.size, rfl, fun i hi => by
          have hb := Go.heap_alloc_new W (.cells #[.string ⟨#[100, 114, 111, 112]⟩, .string ⟨#[102, 117, 115, 101]⟩, .string ⟨#[116, 104, 105, 110]⟩, .string ⟨#[103, 97, 116, 104, 101, 114]⟩] 9)
          have hi4 : i < 4 := hi
          obtain rfl | rfl | rfl | rfl : i = 0 ∨ i = 1 ∨ i = 2 ∨ i = 3 := by omega
          all_goals exact cells_of hb _ _ rfl⟩
      case o4 => -- Op.move (Operand.tmp 6)
        intro xv W hE _
        simp only [putD, List.foldl_nil, List.getD_cons_zero, List.getD_cons_succ]
        refine OpGoal.plain ?_
        go_wp2_with fail
        exact ⟨rfl, Ext.refl _, rfl⟩
      case o5 => -- Op.indexAddr 31 (Operand.tmp 16) (Operand.tmp 17)
        intro xv W hE hp
        obtain ⟨g3, r3, h3⟩ := hp.1
        have r4 : xv 4 = _ := hp.2.1
        clear hp
        simp only [putD, List.foldl_nil, List.foldl_cons, List.getD_cons_zero, List.getD_cons_succ, Act.put, List.setIfInBounds_toArray, List.set_cons_zero, List.set_cons_succ]
        refine OpGoal.plain ?_
        go_wp2_with fail
        exact ⟨rfl, Ext.refl _, g3, rfl, h3⟩
      case o6 => -- Op.load 9 (Operand.tmp 18)
        intro xv W hE hp
        obtain ⟨g5, r5, h5⟩ := hp.1
        clear hp
        have c0 := HQ.out W hE
        have c5 := h5 k hlt
        rw [hw4.out] at c5
        simp only [putD, List.foldl_nil, List.foldl_cons, List.getD_cons_zero, List.getD_cons_succ, Act.put, List.setIfInBounds_toArray, List.set_cons_zero, List.set_cons_succ]
        refine OpGoal.plain ?_
        go_wp2_with fail
        exact ⟨rfl, Ext.refl _, rfl⟩
      case o7 => -- Op.binOp BinOp.eql 9 (Operand.tmp 15) (Operand.tmp 19) 9
        intro xv W hE hp
        have r2 : xv 2 = _ := hp.1
        have r6 : xv 6 = _ := hp.2.1
        clear hp
        simp only [putD, List.foldl_nil, List.foldl_cons, List.getD_cons_zero, List.getD_cons_succ, Act.put, List.setIfInBounds_toArray, List.set_cons_zero, List.set_cons_succ]
        refine OpGoal.plain ?_
        go_wp2_with fail
        exact ⟨rfl, Ext.refl _, rfl⟩
      case last =>
        intro xv W hE hp
        have r0 : xv 0 = _ := hp.1
        have r1 : xv 1 = _ := hp.2.1
        have r2 : xv 2 = _ := hp.2.2.1
        obtain ⟨g3, r3, h3⟩ := hp.2.2.2.1
        have r4 : xv 4 = _ := hp.2.2.2.2.1
        obtain ⟨g5, r5, h5⟩ := hp.2.2.2.2.2.1
        have r6 : xv 6 = _ := hp.2.2.2.2.2.2.1
        have r7 : xv 7 = _ := hp.2.2.2.2.2.2.2.1
        clear hp
        simp only [putD, List.foldl_nil, List.foldl_cons, List.getD_cons_zero, List.getD_cons_succ, Act.put, List.length_cons, List.length_nil, List.range_succ, List.range_zero, List.nil_append, List.cons_append, List.setIfInBounds_toArray, List.set_cons_zero, List.set_cons_succ]
        simp only [r7]
        have hX := Lib.hid (Ext.trans (Ext.drew wr) hE)
        have hBW := HB.out.ext hX.out
        have HBW := Lib.hid hBW
        have fB := hBW.fro 0
        obtain ⟨b0, _⟩ := hBW.get
        have HS := Lib.hid (hBW.kind (((k + 1 : Nat) : Int)))
        have HLT := Lib.hid (Below.setCell (p := ⟨w1.heap.size, 0, none⟩) (Ext.trans HE.out hX.out) (Nat.le_refl _) (.int .i64 ((k + 1 : Nat) : Int)))
        clear hBW hE r0 r1 r2 r4 r7 r6 r5 h5 r3 h3
        cases q with
        | true =>
          have hq : ws.getD 0 [] = wordK ((k : Int) + 1) := of_decide_eq_true HCQ.out
          have HKV : Hid (kkR (ws.getD 0 []) (k + 1) = ((k + 1 : Nat) : Int)) := Lib.hid (by rw [HKK.out, if_pos hq]; omega)
          clear hq
          go_wp2_with fail
          go_roundw
          case rel => exact ⟨k + 1, by omega, by go_num, Lib.hid (by rw [HKV.out]; exact HS.out), Lib.hid HLT.out⟩
          case measure => simp [intOf]; omega
        | false =>
          have hq : ¬ ws.getD 0 [] = wordK ((k : Int) + 1) := of_decide_eq_false HCQ.out
          have HKV : Hid (kkR (ws.getD 0 []) (k + 1) = kkR (ws.getD 0 []) k) := Lib.hid (by rw [HKK.out, if_neg hq])
          clear hq
          go_wp2_with fail
          go_roundw
          case rel => exact ⟨k + 1, by omega, by go_num, Lib.hid (by rw [HKV.out]; exact HBW.out), Lib.hid (Ext.trans HE.out hX.out)⟩
          case measure => simp [intOf]; omega
    · -- END OF LOOP
      obtain rfl : k = 4 := by omega
      have t : decide (((4 : Nat) : Int) < 4) = false := by decide
      have hB := hB.out
      have hE := hE.out
      rw [kkR_four] at hB
      have hkr := kindR_range (ws.getD 0 [])
      have hXr : Ext w wr := Ext.trans HEW1.out hE
      have HXr := Lib.hid hXr
      have HRW := Lib.hid (HR1.out.ext hE)
      have hbad := HBAD.out
      have hgood := HGOOD.out
      unfold badR at hbad hgood
      have hev : evR s.data.toList = ⟨kindR (ws.getD 0 []), numR (ws.getD (ws.length - 1) []), numR (ws.getD 1 []), if kindR (ws.getD 0 []) = 2 ∨ kindR (ws.getD 0 []) = 4 then numR (ws.getD 2 []) else 0, if kindR (ws.getD 0 []) = 1 then numR (ws.getD 2 []) else 0⟩ := by
        unfold evR; rw [HWS.out]
      rw [HWS.out] at hbad hgood
      rw [hev] at hgood
      have HRO := Lib.hid (fun j (hj : j < ws.length) => HROW.out wr hE j hj)
      have HNU : Hid (∀ j, j < ws.length → ∀ W, Calls Tryz.prog 28 #[strV (ws.getD j [])] W fun e w' => e = .returned (.int .i64 (numR (ws.getD j []))) ∧ w' = W) := Lib.hid (fun j hj W => by
        have hp := HPART.out (ws.getD j []) (by rw [List.getD_eq_getElem?_getD, List.getElem?_eq_getElem hj]; exact List.getElem_mem hj)
        have hq := number_any ⟨(ws.getD j []).toArray⟩ W (by show (ws.getD j []).toArray.size < _; simp only [List.size_toArray]; omega)
        exact hq)
      generalize kindR (ws.getD 0 []) = K at *
      have HBAD2 := Lib.hid hbad
      have HGOOD2 := Lib.hid hgood
      have HBv := Lib.hid hB
      have HEv := Lib.hid hE
      have fB0 := hB.fro 0
      have fB1 := hB.fro 1
      have fB2 := hB.fro 2
      have fB3 := hB.fro 3
      have fB4 := hB.fro 4
      obtain ⟨b0, b1, b2, b3, b4⟩ := hB.get
      clear hbad hgood hev HBAD HGOOD hB hE HROW HPART HWS hXr HR0 HE0 HEB HX1 HR1 HEW1 HW
      generalize ws.length = n at *
      generalize hw0 : ws.getD 0 [] = W0 at *
      clear hw0
      have hwE : w.heap.size ≤ w1.heap.size := Nat.le_of_lt HRlt.out
      by_cases k0 : K = 0
      · subst k0
        go_wp2_with (refine store_TE 23 23 w.heap.size [.int .i64 0, .int .i64 0, .int .i64 0, .int .i64 0, .int .i64 0] [.int .i64 0, .int .i64 0, .int .i64 0, .int .i64 0, .int .i64 0] HRW.out rfl (by kernel_rfl) (by intro v hv; simp at hv; subst hv; rfl) rfl (.tmp 2) (.tmp 46) rfl rfl rfl ?_; intro w9 h9 hg9)
        refine bodyPost_ret (results_Eb (e := zeroEv) rfl h9 _ (.bool false) rfl rfl) rfl ⟨⟨none, HBAD2.out (.inl (by simp)), rfl⟩, Below.trans HXr.out (below_rowE hg9 (Ext.sz HXr.out) (fun g e => by simp only [Option.some.injEq] at e; omega))⟩
      have hk := hkr.resolve_left k0
      have tk0 : (K == 0) = false := by simpa using k0
      clear hkr k0
      by_cases n4 : n < 4
      · have i4 : ((n : Nat) : Int) < 4 := by omega
        go_wp2_with (refine store_TE 23 23 w.heap.size [.int .i64 0, .int .i64 0, .int .i64 0, .int .i64 0, .int .i64 0] [.int .i64 0, .int .i64 0, .int .i64 0, .int .i64 0, .int .i64 0] HRW.out rfl (by kernel_rfl) (by intro v hv; simp at hv; subst hv; rfl) rfl (.tmp 2) (.tmp 46) rfl rfl rfl ?_; intro w9 h9 hg9)
        refine bodyPost_ret (results_Eb (e := zeroEv) rfl h9 _ (.bool false) rfl rfl) rfl ⟨⟨none, HBAD2.out (.inr (.inl n4)), rfl⟩, Below.trans HXr.out (below_rowE hg9 (Ext.sz HXr.out) (fun g e => by simp only [Option.some.injEq] at e; omega))⟩
      by_cases n5 : 5 < n
      · have i4 : ¬ ((n : Nat) : Int) < 4 := by omega
        have i5 : 5 < ((n : Nat) : Int) := by omega
        go_wp2_with (refine store_TE 23 23 w.heap.size [.int .i64 0, .int .i64 0, .int .i64 0, .int .i64 0, .int .i64 0] [.int .i64 0, .int .i64 0, .int .i64 0, .int .i64 0, .int .i64 0] HRW.out rfl (by kernel_rfl) (by intro v hv; simp at hv; subst hv; rfl) rfl (.tmp 2) (.tmp 46) rfl rfl rfl ?_; intro w9 h9 hg9)
        refine bodyPost_ret (results_Eb (e := zeroEv) rfl h9 _ (.bool false) rfl rfl) rfl ⟨⟨none, HBAD2.out (.inr (.inr (.inl n5))), rfl⟩, Below.trans HXr.out (below_rowE hg9 (Ext.sz HXr.out) (fun g e => by simp only [Option.some.injEq] at e; omega))⟩
      obtain rfl | rfl : n = 4 ∨ n = 5 := by omega
      · obtain rfl | rfl | rfl | rfl : K = 1 ∨ K = 2 ∨ K = 3 ∨ K = 4 := by omega
        · go_wp2_with (refine store_TE 23 23 w.heap.size [.int .i64 0, .int .i64 0, .int .i64 0, .int .i64 0, .int .i64 0] [.int .i64 0, .int .i64 0, .int .i64 0, .int .i64 0, .int .i64 0] HRW.out rfl (by kernel_rfl) (by intro v hv; simp at hv; subst hv; rfl) rfl (.tmp 2) (.tmp 46) rfl rfl rfl ?_; intro w9 h9 hg9)
          refine bodyPost_ret (results_Eb (e := zeroEv) rfl h9 _ (.bool false) rfl rfl) rfl ⟨⟨none, HBAD2.out (.inr (.inr (.inr rfl))), rfl⟩, Below.trans HXr.out (below_rowE hg9 (Ext.sz HXr.out) (fun g e => by simp only [Option.some.injEq] at e; omega))⟩
        · go_wp2_with (refine store_TE 23 23 w.heap.size [.int .i64 0, .int .i64 0, .int .i64 0, .int .i64 0, .int .i64 0] [.int .i64 0, .int .i64 0, .int .i64 0, .int .i64 0, .int .i64 0] HRW.out rfl (by kernel_rfl) (by intro v hv; simp at hv; subst hv; rfl) rfl (.tmp 2) (.tmp 46) rfl rfl rfl ?_; intro w9 h9 hg9)
          refine bodyPost_ret (results_Eb (e := zeroEv) rfl h9 _ (.bool false) rfl rfl) rfl ⟨⟨none, HBAD2.out (.inr (.inr (.inr rfl))), rfl⟩, Below.trans HXr.out (below_rowE hg9 (Ext.sz HXr.out) (fun g e => by simp only [Option.some.injEq] at e; omega))⟩
        · have q1 := HRO.out 1 (by decide)
          have ql := HRO.out 3 (by decide)
          have HN1 := Lib.hid (HNU.out 1 (by decide))
          have HNl := Lib.hid (HNU.out 3 (by decide))
          have hgd := HGOOD2.out (by decide)
          have eAi : InI (numR (ws.getD 3 [])) := wrap_in _
          have eIi : InI (numR (ws.getD 1 [])) := wrap_in _
          have eXi : InI (numR (ws.getD 2 [])) := wrap_in _
          obtain ⟨nA, hnA⟩ : ∃ nA, numR (ws.getD 3 []) = nA := ⟨_, rfl⟩
          obtain ⟨nI, hnI⟩ : ∃ nI, numR (ws.getD 1 []) = nI := ⟨_, rfl⟩
          obtain ⟨nX, hnX⟩ : ∃ nX, numR (ws.getD 2 []) = nX := ⟨_, rfl⟩
          rw [hnA] at HNl eAi
          rw [hnI] at HN1 eIi
          rw [hnX] at eXi
          have hgd2 : Reads s.data.toList (if textE ⟨3, nA, nI, 0, 0⟩ = s.data.toList then some ⟨3, nA, nI, 0, 0⟩ else none) := by
            have e0 : (4 : Nat) - 1 = 3 := rfl
            rw [e0, hnA, hnI, hnX] at hgd
            exact hgd
          have HGD := Lib.hid hgd2
          have HT := Lib.hid (fun W => rtext_any ⟨3, nA, nI, 0, 0⟩ ⟨(show InI 3 from ⟨by decide, by decide⟩), eAi, eIi, (show InI 0 from ⟨by decide, by decide⟩), (show InI 0 from ⟨by decide, by decide⟩)⟩ W)
          clear hgd hgd2 hnA hnI hnX HNU HRO HGOOD2 HBAD2 eAi eIi eXi
          obtain ⟨S1, hS1⟩ : ∃ S, strV (ws.getD 1 []) = .string S := ⟨_, rfl⟩
          obtain ⟨Sl, hSl⟩ : ∃ S, strV (ws.getD 3 []) = .string S := ⟨_, rfl⟩
          rw [hS1] at q1 HN1
          rw [hSl] at ql HNl
          clear hS1 hSl
          have hEV : EvBlk ((wr.setCell ⟨w1.heap.size, 2, none⟩ (.int .i64 nI)).setCell ⟨w1.heap.size, 1, none⟩ (.int .i64 nA)) w1.heap.size ⟨3, nA, nI, 0, 0⟩ := ((HBv.out.id nI).at_ nA)
          have hRR : EvBlk ((wr.setCell ⟨w1.heap.size, 2, none⟩ (.int .i64 nI)).setCell ⟨w1.heap.size, 1, none⟩ (.int .i64 nA)) w.heap.size zeroEv := by
            have g1 := HRW.out.over (grownE_set wr w1.heap.size 2 (.int .i64 nI)) (by have := HRlt.out; omega)
            have g2 := g1.over (grownE_set _ w1.heap.size 1 (.int .i64 nA)) (by have := HRlt.out; omega)
            exact g2
          have hXX : Ext w ((wr.setCell ⟨w1.heap.size, 2, none⟩ (.int .i64 nI)).setCell ⟨w1.heap.size, 1, none⟩ (.int .i64 nA)) := by
            have g1 : Below w.heap.size w _ := Below.setCell (p := ⟨w1.heap.size, 2, none⟩) HXr.out hwE (.int .i64 nI)
            have g2 : Below w.heap.size w _ := Below.setCell (p := ⟨w1.heap.size, 1, none⟩) g1 hwE (.int .i64 nA)
            exact g2
          have HEV := Lib.hid hEV
          have HRR := Lib.hid hRR
          have HXX := Lib.hid hXX
          have HCM := Lib.hid (ba_beq (textE ⟨3, nA, nI, 0, 0⟩) s)
          clear hEV hRR hXX
          generalize textE ⟨3, nA, nI, 0, 0⟩ = T at *
          go_wp2_with fail
          refine (HN1.out _).mono ?_
          rintro r w2 ⟨rfl, hw2⟩
          have hw3 := hw2.symm; clear hw2; subst hw3
          go_wp2_with fail
          refine (HNl.out _).mono ?_
          rintro r w2 ⟨rfl, hw2⟩
          have hw3 := hw2.symm; clear hw2; subst hw3
          go_wp2_with fail
          refine (HT.out _).mono ?_
          rintro r w5 ⟨rfl, hE5⟩
          have hEV5 := HEV.out.ext hE5
          have HRW := Lib.hid (HRR.out.ext hE5)
          have HX5 := Lib.hid (Ext.trans HXX.out hE5)
          obtain ⟨d0, d1, d2, d3, d4⟩ := hEV5.get
          clear hE5 hEV5 b0 b1 b2 b3 b4 fB0 fB1 fB2 fB3 fB4 HRR HXX HEV HXr
          by_cases hT : T = s.data.toList
          · have tq : ((⟨T.toArray⟩ : ByteArray).toList == s.toList) = true := by rw [HCM.out]; exact decide_eq_true hT
            have hrd := HGD.out
            rw [if_pos hT] at hrd
            have HRD := Lib.hid hrd
            clear hrd hT
            generalize (⟨T.toArray⟩ : ByteArray) = TB at *
            go_wp2_with (refine store_TE 23 23 w.heap.size [.int .i64 0, .int .i64 0, .int .i64 0, .int .i64 0, .int .i64 0] [.int .i64 3, .int .i64 nA, .int .i64 nI, .int .i64 0, .int .i64 0] HRW.out rfl (by kernel_rfl) (by intro v hv; simp at hv; rcases hv with rfl | rfl | rfl | rfl | rfl <;> rfl) rfl (.tmp 2) (.tmp 86) rfl rfl rfl ?_; intro w9 h9 hg9)
            refine bodyPost_ret (results_Eb (e := ⟨3, nA, nI, 0, 0⟩) rfl h9 _ (.bool true) rfl rfl) rfl ⟨⟨some ⟨3, nA, nI, 0, 0⟩, HRD.out, rfl⟩, Below.trans HX5.out (below_rowE hg9 (Ext.sz HX5.out) (fun g e => by simp only [Option.some.injEq] at e; omega))⟩
          · have tq : ((⟨T.toArray⟩ : ByteArray).toList == s.toList) = false := by rw [HCM.out]; exact decide_eq_false hT
            have hrd := HGD.out
            rw [if_neg hT] at hrd
            have HRD := Lib.hid hrd
            clear hrd hT
            generalize (⟨T.toArray⟩ : ByteArray) = TB at *
            go_wp2_with (refine store_TE 23 23 w.heap.size [.int .i64 0, .int .i64 0, .int .i64 0, .int .i64 0, .int .i64 0] [.int .i64 0, .int .i64 0, .int .i64 0, .int .i64 0, .int .i64 0] HRW.out rfl (by kernel_rfl) (by intro v hv; simp at hv; subst hv; rfl) rfl (.tmp 2) (.tmp 85) rfl rfl rfl ?_; intro w9 h9 hg9)
            refine bodyPost_ret (results_Eb (e := zeroEv) rfl h9 _ (.bool false) rfl rfl) rfl ⟨⟨none, HRD.out, rfl⟩, Below.trans HX5.out (below_rowE hg9 (Ext.sz HX5.out) (fun g e => by simp only [Option.some.injEq] at e; omega))⟩
        · go_wp2_with (refine store_TE 23 23 w.heap.size [.int .i64 0, .int .i64 0, .int .i64 0, .int .i64 0, .int .i64 0] [.int .i64 0, .int .i64 0, .int .i64 0, .int .i64 0, .int .i64 0] HRW.out rfl (by kernel_rfl) (by intro v hv; simp at hv; subst hv; rfl) rfl (.tmp 2) (.tmp 46) rfl rfl rfl ?_; intro w9 h9 hg9)
          refine bodyPost_ret (results_Eb (e := zeroEv) rfl h9 _ (.bool false) rfl rfl) rfl ⟨⟨none, HBAD2.out (.inr (.inr (.inr rfl))), rfl⟩, Below.trans HXr.out (below_rowE hg9 (Ext.sz HXr.out) (fun g e => by simp only [Option.some.injEq] at e; omega))⟩
      · obtain rfl | rfl | rfl | rfl : K = 1 ∨ K = 2 ∨ K = 3 ∨ K = 4 := by omega
        · have q1 := HRO.out 1 (by decide)
          have ql := HRO.out 4 (by decide)
          have HN1 := Lib.hid (HNU.out 1 (by decide))
          have HNl := Lib.hid (HNU.out 4 (by decide))
          have q2 := HRO.out 2 (by decide)
          have HN2 := Lib.hid (HNU.out 2 (by decide))
          have hgd := HGOOD2.out (by decide)
          have eAi : InI (numR (ws.getD 4 [])) := wrap_in _
          have eIi : InI (numR (ws.getD 1 [])) := wrap_in _
          have eXi : InI (numR (ws.getD 2 [])) := wrap_in _
          obtain ⟨nA, hnA⟩ : ∃ nA, numR (ws.getD 4 []) = nA := ⟨_, rfl⟩
          obtain ⟨nI, hnI⟩ : ∃ nI, numR (ws.getD 1 []) = nI := ⟨_, rfl⟩
          obtain ⟨nX, hnX⟩ : ∃ nX, numR (ws.getD 2 []) = nX := ⟨_, rfl⟩
          rw [hnA] at HNl eAi
          rw [hnI] at HN1 eIi
          rw [hnX] at eXi
          rw [hnX] at HN2
          have hgd2 : Reads s.data.toList (if textE ⟨1, nA, nI, 0, nX⟩ = s.data.toList then some ⟨1, nA, nI, 0, nX⟩ else none) := by
            have e0 : (5 : Nat) - 1 = 4 := rfl
            rw [e0, hnA, hnI, hnX] at hgd
            exact hgd
          have HGD := Lib.hid hgd2
          have HT := Lib.hid (fun W => rtext_any ⟨1, nA, nI, 0, nX⟩ ⟨(show InI 1 from ⟨by decide, by decide⟩), eAi, eIi, (show InI 0 from ⟨by decide, by decide⟩), eXi⟩ W)
          clear hgd hgd2 hnA hnI hnX HNU HRO HGOOD2 HBAD2 eAi eIi eXi
          obtain ⟨S1, hS1⟩ : ∃ S, strV (ws.getD 1 []) = .string S := ⟨_, rfl⟩
          obtain ⟨Sl, hSl⟩ : ∃ S, strV (ws.getD 4 []) = .string S := ⟨_, rfl⟩
          rw [hS1] at q1 HN1
          rw [hSl] at ql HNl
          clear hS1 hSl
          obtain ⟨S2, hS2⟩ : ∃ S, strV (ws.getD 2 []) = .string S := ⟨_, rfl⟩
          rw [hS2] at q2 HN2
          clear hS2
          have hEV : EvBlk (((wr.setCell ⟨w1.heap.size, 2, none⟩ (.int .i64 nI)).setCell ⟨w1.heap.size, 1, none⟩ (.int .i64 nA)).setCell ⟨w1.heap.size, 4, none⟩ (.int .i64 nX)) w1.heap.size ⟨1, nA, nI, 0, nX⟩ := ((HBv.out.id nI).at_ nA).n nX
          have hRR : EvBlk (((wr.setCell ⟨w1.heap.size, 2, none⟩ (.int .i64 nI)).setCell ⟨w1.heap.size, 1, none⟩ (.int .i64 nA)).setCell ⟨w1.heap.size, 4, none⟩ (.int .i64 nX)) w.heap.size zeroEv := by
            have g1 := HRW.out.over (grownE_set wr w1.heap.size 2 (.int .i64 nI)) (by have := HRlt.out; omega)
            have g2 := g1.over (grownE_set _ w1.heap.size 1 (.int .i64 nA)) (by have := HRlt.out; omega)
            exact g2.over (grownE_set _ w1.heap.size 4 (.int .i64 nX)) (by have := HRlt.out; omega)
          have hXX : Ext w (((wr.setCell ⟨w1.heap.size, 2, none⟩ (.int .i64 nI)).setCell ⟨w1.heap.size, 1, none⟩ (.int .i64 nA)).setCell ⟨w1.heap.size, 4, none⟩ (.int .i64 nX)) := by
            have g1 : Below w.heap.size w _ := Below.setCell (p := ⟨w1.heap.size, 2, none⟩) HXr.out hwE (.int .i64 nI)
            have g2 : Below w.heap.size w _ := Below.setCell (p := ⟨w1.heap.size, 1, none⟩) g1 hwE (.int .i64 nA)
            exact Below.setCell (p := ⟨w1.heap.size, 4, none⟩) g2 hwE (.int .i64 nX)
          have HEV := Lib.hid hEV
          have HRR := Lib.hid hRR
          have HXX := Lib.hid hXX
          have HCM := Lib.hid (ba_beq (textE ⟨1, nA, nI, 0, nX⟩) s)
          clear hEV hRR hXX
          generalize textE ⟨1, nA, nI, 0, nX⟩ = T at *
          go_wp2_with fail
          refine (HN1.out _).mono ?_
          rintro r w2 ⟨rfl, hw2⟩
          have hw3 := hw2.symm; clear hw2; subst hw3
          go_wp2_with fail
          refine (HNl.out _).mono ?_
          rintro r w2 ⟨rfl, hw2⟩
          have hw3 := hw2.symm; clear hw2; subst hw3
          go_wp2_with fail
          refine (HN2.out _).mono ?_
          rintro r w2 ⟨rfl, hw2⟩
          have hw3 := hw2.symm; clear hw2; subst hw3
          go_wp2_with fail
          refine (HT.out _).mono ?_
          rintro r w5 ⟨rfl, hE5⟩
          have hEV5 := HEV.out.ext hE5
          have HRW := Lib.hid (HRR.out.ext hE5)
          have HX5 := Lib.hid (Ext.trans HXX.out hE5)
          obtain ⟨d0, d1, d2, d3, d4⟩ := hEV5.get
          clear hE5 hEV5 b0 b1 b2 b3 b4 fB0 fB1 fB2 fB3 fB4 HRR HXX HEV HXr
          by_cases hT : T = s.data.toList
          · have tq : ((⟨T.toArray⟩ : ByteArray).toList == s.toList) = true := by rw [HCM.out]; exact decide_eq_true hT
            have hrd := HGD.out
            rw [if_pos hT] at hrd
            have HRD := Lib.hid hrd
            clear hrd hT
            generalize (⟨T.toArray⟩ : ByteArray) = TB at *
            go_wp2_with (refine store_TE 23 23 w.heap.size [.int .i64 0, .int .i64 0, .int .i64 0, .int .i64 0, .int .i64 0] [.int .i64 1, .int .i64 nA, .int .i64 nI, .int .i64 0, .int .i64 nX] HRW.out rfl (by kernel_rfl) (by intro v hv; simp at hv; rcases hv with rfl | rfl | rfl | rfl | rfl <;> rfl) rfl (.tmp 2) (.tmp 86) rfl rfl rfl ?_; intro w9 h9 hg9)
            refine bodyPost_ret (results_Eb (e := ⟨1, nA, nI, 0, nX⟩) rfl h9 _ (.bool true) rfl rfl) rfl ⟨⟨some ⟨1, nA, nI, 0, nX⟩, HRD.out, rfl⟩, Below.trans HX5.out (below_rowE hg9 (Ext.sz HX5.out) (fun g e => by simp only [Option.some.injEq] at e; omega))⟩
          · have tq : ((⟨T.toArray⟩ : ByteArray).toList == s.toList) = false := by rw [HCM.out]; exact decide_eq_false hT
            have hrd := HGD.out
            rw [if_neg hT] at hrd
            have HRD := Lib.hid hrd
            clear hrd hT
            generalize (⟨T.toArray⟩ : ByteArray) = TB at *
            go_wp2_with (refine store_TE 23 23 w.heap.size [.int .i64 0, .int .i64 0, .int .i64 0, .int .i64 0, .int .i64 0] [.int .i64 0, .int .i64 0, .int .i64 0, .int .i64 0, .int .i64 0] HRW.out rfl (by kernel_rfl) (by intro v hv; simp at hv; subst hv; rfl) rfl (.tmp 2) (.tmp 85) rfl rfl rfl ?_; intro w9 h9 hg9)
            refine bodyPost_ret (results_Eb (e := zeroEv) rfl h9 _ (.bool false) rfl rfl) rfl ⟨⟨none, HRD.out, rfl⟩, Below.trans HX5.out (below_rowE hg9 (Ext.sz HX5.out) (fun g e => by simp only [Option.some.injEq] at e; omega))⟩
        · have q1 := HRO.out 1 (by decide)
          have ql := HRO.out 4 (by decide)
          have HN1 := Lib.hid (HNU.out 1 (by decide))
          have HNl := Lib.hid (HNU.out 4 (by decide))
          have q2 := HRO.out 2 (by decide)
          have HN2 := Lib.hid (HNU.out 2 (by decide))
          have hgd := HGOOD2.out (by decide)
          have eAi : InI (numR (ws.getD 4 [])) := wrap_in _
          have eIi : InI (numR (ws.getD 1 [])) := wrap_in _
          have eXi : InI (numR (ws.getD 2 [])) := wrap_in _
          obtain ⟨nA, hnA⟩ : ∃ nA, numR (ws.getD 4 []) = nA := ⟨_, rfl⟩
          obtain ⟨nI, hnI⟩ : ∃ nI, numR (ws.getD 1 []) = nI := ⟨_, rfl⟩
          obtain ⟨nX, hnX⟩ : ∃ nX, numR (ws.getD 2 []) = nX := ⟨_, rfl⟩
          rw [hnA] at HNl eAi
          rw [hnI] at HN1 eIi
          rw [hnX] at eXi
          rw [hnX] at HN2
          have hgd2 : Reads s.data.toList (if textE ⟨2, nA, nI, nX, 0⟩ = s.data.toList then some ⟨2, nA, nI, nX, 0⟩ else none) := by
            have e0 : (5 : Nat) - 1 = 4 := rfl
            rw [e0, hnA, hnI, hnX] at hgd
            exact hgd
          have HGD := Lib.hid hgd2
          have HT := Lib.hid (fun W => rtext_any ⟨2, nA, nI, nX, 0⟩ ⟨(show InI 2 from ⟨by decide, by decide⟩), eAi, eIi, eXi, (show InI 0 from ⟨by decide, by decide⟩)⟩ W)
          clear hgd hgd2 hnA hnI hnX HNU HRO HGOOD2 HBAD2 eAi eIi eXi
          obtain ⟨S1, hS1⟩ : ∃ S, strV (ws.getD 1 []) = .string S := ⟨_, rfl⟩
          obtain ⟨Sl, hSl⟩ : ∃ S, strV (ws.getD 4 []) = .string S := ⟨_, rfl⟩
          rw [hS1] at q1 HN1
          rw [hSl] at ql HNl
          clear hS1 hSl
          obtain ⟨S2, hS2⟩ : ∃ S, strV (ws.getD 2 []) = .string S := ⟨_, rfl⟩
          rw [hS2] at q2 HN2
          clear hS2
          have hEV : EvBlk (((wr.setCell ⟨w1.heap.size, 2, none⟩ (.int .i64 nI)).setCell ⟨w1.heap.size, 1, none⟩ (.int .i64 nA)).setCell ⟨w1.heap.size, 3, none⟩ (.int .i64 nX)) w1.heap.size ⟨2, nA, nI, nX, 0⟩ := ((HBv.out.id nI).at_ nA).other nX
          have hRR : EvBlk (((wr.setCell ⟨w1.heap.size, 2, none⟩ (.int .i64 nI)).setCell ⟨w1.heap.size, 1, none⟩ (.int .i64 nA)).setCell ⟨w1.heap.size, 3, none⟩ (.int .i64 nX)) w.heap.size zeroEv := by
            have g1 := HRW.out.over (grownE_set wr w1.heap.size 2 (.int .i64 nI)) (by have := HRlt.out; omega)
            have g2 := g1.over (grownE_set _ w1.heap.size 1 (.int .i64 nA)) (by have := HRlt.out; omega)
            exact g2.over (grownE_set _ w1.heap.size 3 (.int .i64 nX)) (by have := HRlt.out; omega)
          have hXX : Ext w (((wr.setCell ⟨w1.heap.size, 2, none⟩ (.int .i64 nI)).setCell ⟨w1.heap.size, 1, none⟩ (.int .i64 nA)).setCell ⟨w1.heap.size, 3, none⟩ (.int .i64 nX)) := by
            have g1 : Below w.heap.size w _ := Below.setCell (p := ⟨w1.heap.size, 2, none⟩) HXr.out hwE (.int .i64 nI)
            have g2 : Below w.heap.size w _ := Below.setCell (p := ⟨w1.heap.size, 1, none⟩) g1 hwE (.int .i64 nA)
            exact Below.setCell (p := ⟨w1.heap.size, 3, none⟩) g2 hwE (.int .i64 nX)
          have HEV := Lib.hid hEV
          have HRR := Lib.hid hRR
          have HXX := Lib.hid hXX
          have HCM := Lib.hid (ba_beq (textE ⟨2, nA, nI, nX, 0⟩) s)
          clear hEV hRR hXX
          generalize textE ⟨2, nA, nI, nX, 0⟩ = T at *
          go_wp2_with fail
          refine (HN1.out _).mono ?_
          rintro r w2 ⟨rfl, hw2⟩
          have hw3 := hw2.symm; clear hw2; subst hw3
          go_wp2_with fail
          refine (HNl.out _).mono ?_
          rintro r w2 ⟨rfl, hw2⟩
          have hw3 := hw2.symm; clear hw2; subst hw3
          go_wp2_with fail
          refine (HN2.out _).mono ?_
          rintro r w2 ⟨rfl, hw2⟩
          have hw3 := hw2.symm; clear hw2; subst hw3
          go_wp2_with fail
          refine (HT.out _).mono ?_
          rintro r w5 ⟨rfl, hE5⟩
          have hEV5 := HEV.out.ext hE5
          have HRW := Lib.hid (HRR.out.ext hE5)
          have HX5 := Lib.hid (Ext.trans HXX.out hE5)
          obtain ⟨d0, d1, d2, d3, d4⟩ := hEV5.get
          clear hE5 hEV5 b0 b1 b2 b3 b4 fB0 fB1 fB2 fB3 fB4 HRR HXX HEV HXr
          by_cases hT : T = s.data.toList
          · have tq : ((⟨T.toArray⟩ : ByteArray).toList == s.toList) = true := by rw [HCM.out]; exact decide_eq_true hT
            have hrd := HGD.out
            rw [if_pos hT] at hrd
            have HRD := Lib.hid hrd
            clear hrd hT
            generalize (⟨T.toArray⟩ : ByteArray) = TB at *
            go_wp2_with (refine store_TE 23 23 w.heap.size [.int .i64 0, .int .i64 0, .int .i64 0, .int .i64 0, .int .i64 0] [.int .i64 2, .int .i64 nA, .int .i64 nI, .int .i64 nX, .int .i64 0] HRW.out rfl (by kernel_rfl) (by intro v hv; simp at hv; rcases hv with rfl | rfl | rfl | rfl | rfl <;> rfl) rfl (.tmp 2) (.tmp 86) rfl rfl rfl ?_; intro w9 h9 hg9)
            refine bodyPost_ret (results_Eb (e := ⟨2, nA, nI, nX, 0⟩) rfl h9 _ (.bool true) rfl rfl) rfl ⟨⟨some ⟨2, nA, nI, nX, 0⟩, HRD.out, rfl⟩, Below.trans HX5.out (below_rowE hg9 (Ext.sz HX5.out) (fun g e => by simp only [Option.some.injEq] at e; omega))⟩
          · have tq : ((⟨T.toArray⟩ : ByteArray).toList == s.toList) = false := by rw [HCM.out]; exact decide_eq_false hT
            have hrd := HGD.out
            rw [if_neg hT] at hrd
            have HRD := Lib.hid hrd
            clear hrd hT
            generalize (⟨T.toArray⟩ : ByteArray) = TB at *
            go_wp2_with (refine store_TE 23 23 w.heap.size [.int .i64 0, .int .i64 0, .int .i64 0, .int .i64 0, .int .i64 0] [.int .i64 0, .int .i64 0, .int .i64 0, .int .i64 0, .int .i64 0] HRW.out rfl (by kernel_rfl) (by intro v hv; simp at hv; subst hv; rfl) rfl (.tmp 2) (.tmp 85) rfl rfl rfl ?_; intro w9 h9 hg9)
            refine bodyPost_ret (results_Eb (e := zeroEv) rfl h9 _ (.bool false) rfl rfl) rfl ⟨⟨none, HRD.out, rfl⟩, Below.trans HX5.out (below_rowE hg9 (Ext.sz HX5.out) (fun g e => by simp only [Option.some.injEq] at e; omega))⟩
        · go_wp2_with (refine store_TE 23 23 w.heap.size [.int .i64 0, .int .i64 0, .int .i64 0, .int .i64 0, .int .i64 0] [.int .i64 0, .int .i64 0, .int .i64 0, .int .i64 0, .int .i64 0] HRW.out rfl (by kernel_rfl) (by intro v hv; simp at hv; subst hv; rfl) rfl (.tmp 2) (.tmp 46) rfl rfl rfl ?_; intro w9 h9 hg9)
          refine bodyPost_ret (results_Eb (e := zeroEv) rfl h9 _ (.bool false) rfl rfl) rfl ⟨⟨none, HBAD2.out (.inr (.inr (.inr rfl))), rfl⟩, Below.trans HXr.out (below_rowE hg9 (Ext.sz HXr.out) (fun g e => by simp only [Option.some.injEq] at e; omega))⟩
        · have q1 := HRO.out 1 (by decide)
          have ql := HRO.out 4 (by decide)
          have HN1 := Lib.hid (HNU.out 1 (by decide))
          have HNl := Lib.hid (HNU.out 4 (by decide))
          have q2 := HRO.out 2 (by decide)
          have HN2 := Lib.hid (HNU.out 2 (by decide))
          have hgd := HGOOD2.out (by decide)
          have eAi : InI (numR (ws.getD 4 [])) := wrap_in _
          have eIi : InI (numR (ws.getD 1 [])) := wrap_in _
          have eXi : InI (numR (ws.getD 2 [])) := wrap_in _
          obtain ⟨nA, hnA⟩ : ∃ nA, numR (ws.getD 4 []) = nA := ⟨_, rfl⟩
          obtain ⟨nI, hnI⟩ : ∃ nI, numR (ws.getD 1 []) = nI := ⟨_, rfl⟩
          obtain ⟨nX, hnX⟩ : ∃ nX, numR (ws.getD 2 []) = nX := ⟨_, rfl⟩
          rw [hnA] at HNl eAi
          rw [hnI] at HN1 eIi
          rw [hnX] at eXi
          rw [hnX] at HN2
          have hgd2 : Reads s.data.toList (if textE ⟨4, nA, nI, nX, 0⟩ = s.data.toList then some ⟨4, nA, nI, nX, 0⟩ else none) := by
            have e0 : (5 : Nat) - 1 = 4 := rfl
            rw [e0, hnA, hnI, hnX] at hgd
            exact hgd
          have HGD := Lib.hid hgd2
          have HT := Lib.hid (fun W => rtext_any ⟨4, nA, nI, nX, 0⟩ ⟨(show InI 4 from ⟨by decide, by decide⟩), eAi, eIi, eXi, (show InI 0 from ⟨by decide, by decide⟩)⟩ W)
          clear hgd hgd2 hnA hnI hnX HNU HRO HGOOD2 HBAD2 eAi eIi eXi
          obtain ⟨S1, hS1⟩ : ∃ S, strV (ws.getD 1 []) = .string S := ⟨_, rfl⟩
          obtain ⟨Sl, hSl⟩ : ∃ S, strV (ws.getD 4 []) = .string S := ⟨_, rfl⟩
          rw [hS1] at q1 HN1
          rw [hSl] at ql HNl
          clear hS1 hSl
          obtain ⟨S2, hS2⟩ : ∃ S, strV (ws.getD 2 []) = .string S := ⟨_, rfl⟩
          rw [hS2] at q2 HN2
          clear hS2
          have hEV : EvBlk (((wr.setCell ⟨w1.heap.size, 2, none⟩ (.int .i64 nI)).setCell ⟨w1.heap.size, 1, none⟩ (.int .i64 nA)).setCell ⟨w1.heap.size, 3, none⟩ (.int .i64 nX)) w1.heap.size ⟨4, nA, nI, nX, 0⟩ := ((HBv.out.id nI).at_ nA).other nX
          have hRR : EvBlk (((wr.setCell ⟨w1.heap.size, 2, none⟩ (.int .i64 nI)).setCell ⟨w1.heap.size, 1, none⟩ (.int .i64 nA)).setCell ⟨w1.heap.size, 3, none⟩ (.int .i64 nX)) w.heap.size zeroEv := by
            have g1 := HRW.out.over (grownE_set wr w1.heap.size 2 (.int .i64 nI)) (by have := HRlt.out; omega)
            have g2 := g1.over (grownE_set _ w1.heap.size 1 (.int .i64 nA)) (by have := HRlt.out; omega)
            exact g2.over (grownE_set _ w1.heap.size 3 (.int .i64 nX)) (by have := HRlt.out; omega)
          have hXX : Ext w (((wr.setCell ⟨w1.heap.size, 2, none⟩ (.int .i64 nI)).setCell ⟨w1.heap.size, 1, none⟩ (.int .i64 nA)).setCell ⟨w1.heap.size, 3, none⟩ (.int .i64 nX)) := by
            have g1 : Below w.heap.size w _ := Below.setCell (p := ⟨w1.heap.size, 2, none⟩) HXr.out hwE (.int .i64 nI)
            have g2 : Below w.heap.size w _ := Below.setCell (p := ⟨w1.heap.size, 1, none⟩) g1 hwE (.int .i64 nA)
            exact Below.setCell (p := ⟨w1.heap.size, 3, none⟩) g2 hwE (.int .i64 nX)
          have HEV := Lib.hid hEV
          have HRR := Lib.hid hRR
          have HXX := Lib.hid hXX
          have HCM := Lib.hid (ba_beq (textE ⟨4, nA, nI, nX, 0⟩) s)
          clear hEV hRR hXX
          generalize textE ⟨4, nA, nI, nX, 0⟩ = T at *
          go_wp2_with fail
          refine (HN1.out _).mono ?_
          rintro r w2 ⟨rfl, hw2⟩
          have hw3 := hw2.symm; clear hw2; subst hw3
          go_wp2_with fail
          refine (HNl.out _).mono ?_
          rintro r w2 ⟨rfl, hw2⟩
          have hw3 := hw2.symm; clear hw2; subst hw3
          go_wp2_with fail
          refine (HN2.out _).mono ?_
          rintro r w2 ⟨rfl, hw2⟩
          have hw3 := hw2.symm; clear hw2; subst hw3
          go_wp2_with fail
          refine (HT.out _).mono ?_
          rintro r w5 ⟨rfl, hE5⟩
          have hEV5 := HEV.out.ext hE5
          have HRW := Lib.hid (HRR.out.ext hE5)
          have HX5 := Lib.hid (Ext.trans HXX.out hE5)
          obtain ⟨d0, d1, d2, d3, d4⟩ := hEV5.get
          clear hE5 hEV5 b0 b1 b2 b3 b4 fB0 fB1 fB2 fB3 fB4 HRR HXX HEV HXr
          by_cases hT : T = s.data.toList
          · have tq : ((⟨T.toArray⟩ : ByteArray).toList == s.toList) = true := by rw [HCM.out]; exact decide_eq_true hT
            have hrd := HGD.out
            rw [if_pos hT] at hrd
            have HRD := Lib.hid hrd
            clear hrd hT
            generalize (⟨T.toArray⟩ : ByteArray) = TB at *
            go_wp2_with (refine store_TE 23 23 w.heap.size [.int .i64 0, .int .i64 0, .int .i64 0, .int .i64 0, .int .i64 0] [.int .i64 4, .int .i64 nA, .int .i64 nI, .int .i64 nX, .int .i64 0] HRW.out rfl (by kernel_rfl) (by intro v hv; simp at hv; rcases hv with rfl | rfl | rfl | rfl | rfl <;> rfl) rfl (.tmp 2) (.tmp 86) rfl rfl rfl ?_; intro w9 h9 hg9)
            refine bodyPost_ret (results_Eb (e := ⟨4, nA, nI, nX, 0⟩) rfl h9 _ (.bool true) rfl rfl) rfl ⟨⟨some ⟨4, nA, nI, nX, 0⟩, HRD.out, rfl⟩, Below.trans HX5.out (below_rowE hg9 (Ext.sz HX5.out) (fun g e => by simp only [Option.some.injEq] at e; omega))⟩
          · have tq : ((⟨T.toArray⟩ : ByteArray).toList == s.toList) = false := by rw [HCM.out]; exact decide_eq_false hT
            have hrd := HGD.out
            rw [if_neg hT] at hrd
            have HRD := Lib.hid hrd
            clear hrd hT
            generalize (⟨T.toArray⟩ : ByteArray) = TB at *
            go_wp2_with (refine store_TE 23 23 w.heap.size [.int .i64 0, .int .i64 0, .int .i64 0, .int .i64 0, .int .i64 0] [.int .i64 0, .int .i64 0, .int .i64 0, .int .i64 0, .int .i64 0] HRW.out rfl (by kernel_rfl) (by intro v hv; simp at hv; subst hv; rfl) rfl (.tmp 2) (.tmp 85) rfl rfl rfl ?_; intro w9 h9 hg9)
            refine bodyPost_ret (results_Eb (e := zeroEv) rfl h9 _ (.bool false) rfl rfl) rfl ⟨⟨none, HRD.out, rfl⟩, Below.trans HX5.out (below_rowE hg9 (Ext.sz HX5.out) (fun g e => by simp only [Option.some.injEq] at e; omega))⟩
end Go.Proofs.YtompfgofaplffaaGreatDoor
