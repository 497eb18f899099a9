/- The reader on tokens: peek, take. -/
import Derived.Test.YtggkkjnfonbpkaaGreatDoorQGd

set_option linter.unusedSimpArgs false
set_option linter.unusedVariables false
namespace Go.Proofs.YtggkkjnfonbpkaaGreatDoor
open Go.RowKit Hach

/- what a reader has before it -/
def RS (w : World) (b : Nat) (ts : List Tok) (bad : Bool) : Prop := ∃ s, RdAt w b s ∧ lt s = (ts, bad) ∧ s.length ≤ 4096
theorem RS.lt {w : World} {b : Nat} {ts : List Tok} {bad : Bool} (h : RS w b ts bad) : b < w.heap.size := by
  obtain ⟨s, h, _⟩ := h; exact VarAt.lt h
theorem RS.own {w w' : World} {b : Nat} {ts : List Tok} {bad : Bool} {r : Option Nat} (h : RS w b ts bad) (hg : w.grownBy w' r) (hb : some b ≠ r) : RS w' b ts bad := by
  obtain ⟨s, h1, h2, h3⟩ := h; exact ⟨s, VarAt.own h1 hg hb, h2, h3⟩
theorem RS.ext {w w' : World} {b : Nat} {ts : List Tok} {bad : Bool} (h : RS w b ts bad) (hE : Ext w w') : RS w' b ts bad := h.own (grown_of hE none) (by simp)
theorem RS.toks {w : World} {b : Nat} {ts : List Tok} {bad : Bool} (h : RS w b ts bad) : (∀ t ∈ ts, IsTok t ∧ t.length ≤ 4096) ∧ ts.length ≤ 4096 := by
  obtain ⟨s, h1, h2, h3⟩ := h
  obtain ⟨i1, i2⟩ := lt_toks s.length s (Nat.le_refl _)
  rw [h2] at i1 i2
  simp only at i2
  exact ⟨fun t ht => ⟨(i1 t ht).1, by have := (i1 t ht).2; omega⟩, by omega⟩
def Pan (b : Nat) (w : World) (e : Ending) (w' : World) : Prop := e = .panicked wrong ∧ w.grownBy w' (some b)
abbrev rp (b : Nat) : Value := .pointer (some ⟨b, 0, none⟩)
def bs (t : Tok) : Value := .string ⟨t.toArray⟩
theorem next_tok {b : Nat} {w : World} {t : Tok} {ts : List Tok} {bad : Bool} (h : RS w b (t :: ts) bad) : Calls Tryz.prog 86 #[rp b] w fun e w' => e = .returned (bs t) ∧ RS w' b ts bad ∧ w.grownBy w' (some b) := by
  obtain ⟨s, h1, h2, h3⟩ := h
  refine (next_any s b w h1 (by omega)).mono ?_
  rintro e w' ⟨hg, hp⟩
  obtain ⟨s', q1, q2, q3, q4, q5⟩ := nx_tok h2
  rw [q1] at hp
  exact ⟨hp.1, ⟨s', hp.2, q2, by omega⟩, hg⟩
theorem next_end {b : Nat} {w : World} (h : RS w b [] false) : Calls Tryz.prog 86 #[rp b] w fun e w' => e = .returned (bs []) ∧ RS w' b [] false ∧ w.grownBy w' (some b) := by
  obtain ⟨s, h1, h2, h3⟩ := h
  refine (next_any s b w h1 (by omega)).mono ?_
  rintro e w' ⟨hg, hp⟩
  rw [nx_end h2] at hp
  exact ⟨hp.1, ⟨[], hp.2, rfl, by simp⟩, hg⟩
theorem next_bad {b : Nat} {w : World} (h : RS w b [] true) : Calls Tryz.prog 86 #[rp b] w (Pan b w) := by
  obtain ⟨s, h1, h2, h3⟩ := h
  refine (next_any s b w h1 (by omega)).mono ?_
  rintro e w' ⟨hg, hp⟩
  rw [nx_bad h2] at hp
  exact ⟨hp.1, hg⟩
def TkP (t u : Tok) (A B : Prop) : Prop := (t = u → A) ∧ (t ≠ u → B)
def hd (ts : List Tok) : Tok := ts.headD []
/- peek, where it goes through -/
set_option maxHeartbeats 1000000 in
theorem peek_ok {b : Nat} {w : World} {ts : List Tok} {bad : Bool} (h : RS w b ts bad) (hok : ts ≠ [] ∨ bad = false) : Calls Tryz.prog 85 #[rp b] w fun e w' => e = .returned (bs (hd ts)) ∧ RS w' b ts bad ∧ w.grownBy w' (some b) := by
  have HN : Hid (Calls Tryz.prog 86 #[rp b] w fun e w' => e = .returned (bs (hd ts)) ∧ (∃ ts', RS w' b ts' bad) ∧ w.grownBy w' (some b)) := Lib.hid (by
    cases ts with
    | nil =>
      rcases hok with hok | hok
      · exact absurd rfl hok
      · subst hok
        exact (next_end h).mono fun e w' ⟨a, q, c⟩ => ⟨a, ⟨_, q⟩, c⟩
    | cons t r => exact (next_tok h).mono fun e w' ⟨a, q, c⟩ => ⟨a, ⟨_, q⟩, c⟩)
  obtain ⟨s, h1, h2, h3⟩ := h
  obtain ⟨hc, hf⟩ := h1.cell
  have H2 := Lib.hid h2
  clear h2 hok
  generalize hd ts = t at *
  unfold bs rp at *
  go_enter Tryz.func85, Tryz.ntmps85
  go_wp2_with fail
  refine HN.out.mono ?_
  rintro e w1 ⟨rfl, ⟨ts', s', q1, _⟩, hg⟩
  obtain ⟨hc1, hf1⟩ := VarAt.cell q1
  go_wp2_with fail
  go_ret
  exact ⟨rfl, ⟨s, VarAt.set q1 _, H2.out, h3⟩, grown_trans hg (grown_set _ _ _ _)⟩
set_option maxHeartbeats 1000000 in
theorem peek_bad {b : Nat} {w : World} (h : RS w b [] true) : Calls Tryz.prog 85 #[rp b] w (Pan b w) := by
  have HN := Lib.hid (next_bad h)
  obtain ⟨s, h1, h2, h3⟩ := h
  obtain ⟨hc, hf⟩ := h1.cell
  clear h2 h3
  unfold rp at *
  go_enter Tryz.func85, Tryz.ntmps85
  go_wp2_with fail
  refine HN.out.mono ?_
  rintro e w1 ⟨rfl, hg⟩
  exact ⟨rfl, rfl, hg⟩
theorem bs_eq (t u : Tok) (D E : ByteArray) (hD : ⟨t.toArray⟩ = D) (hE : ⟨u.toArray⟩ = E) : (D.toList == E.toList) = decide (t = u) := by
  subst hD; subst hE; exact bytes_beq t u
theorem bs_list (t u : Tok) (D : ByteArray) (hD : ⟨t.toArray⟩ = D) : (D.toList == u) = decide (t = u) := by
  subst hD
  rw [ByteArray.toList_eq]
  show (t == u) = _
  by_cases h : t = u
  · subst h; simp
  · rw [decide_eq_false h]; simpa using h
set_option maxHeartbeats 1000000 in
/- take, of a token that is there -/
theorem take_tok {b : Nat} {w : World} {t : Tok} {ts : List Tok} {bad : Bool} (h : RS w b (t :: ts) bad) (u : Tok) : Calls Tryz.prog 66 #[rp b, bs u] w fun e w' => TkP t u (e = .returned (.tuple #[]) ∧ RS w' b ts bad) (e = .panicked wrong) ∧ w.grownBy w' (some b) := by
  have HN := Lib.hid (next_tok h)
  clear h
  unfold bs rp at *
  obtain ⟨D, hD⟩ : ∃ D : ByteArray, ⟨t.toArray⟩ = D := ⟨_, rfl⟩
  obtain ⟨E, hE⟩ : ∃ E : ByteArray, ⟨u.toArray⟩ = E := ⟨_, rfl⟩
  have hq := bs_eq t u D E hD hE
  rw [hD] at HN
  rw [hE]
  clear hD hE
  by_cases htu : t = u
  · rw [decide_eq_true htu] at hq
    have HT := Lib.hid htu
    clear htu
    go_enter Tryz.func66, Tryz.ntmps66
    go_wp2_with fail
    refine HN.out.mono ?_
    rintro e w1 ⟨rfl, hr, hg⟩
    go_wp2_with fail
    refine (need_yes _).mono ?_
    rintro e w' ⟨rfl, rfl⟩
    go_wp2_with fail
    go_end0
    exact ⟨⟨fun _ => ⟨rfl, hr⟩, fun hn => absurd HT.out hn⟩, hg⟩
  · rw [decide_eq_false htu] at hq
    have HT := Lib.hid htu
    clear htu
    go_enter Tryz.func66, Tryz.ntmps66
    go_wp2_with fail
    refine HN.out.mono ?_
    rintro e w1 ⟨rfl, hr, hg⟩
    go_wp2_with fail
    refine (need_no _).mono ?_
    rintro e w' ⟨rfl, rfl⟩
    exact ⟨rfl, ⟨fun ht => absurd ht HT.out, fun _ => rfl⟩, hg⟩
set_option maxHeartbeats 1000000 in
/- take, at the end -/
theorem take_end {b : Nat} {w : World} (h : RS w b [] false) (u : Tok) : Calls Tryz.prog 66 #[rp b, bs u] w fun e w' => TkP u [] (e = .returned (.tuple #[])) (e = .panicked wrong) ∧ w.grownBy w' (some b) := by
  have HN := Lib.hid (next_end h)
  clear h
  unfold bs rp at *
  obtain ⟨D, hD⟩ : ∃ D : ByteArray, ⟨([] : List UInt8).toArray⟩ = D := ⟨_, rfl⟩
  obtain ⟨E, hE⟩ : ∃ E : ByteArray, ⟨u.toArray⟩ = E := ⟨_, rfl⟩
  have hq := bs_eq [] u D E hD hE
  rw [hD] at HN
  rw [hE]
  clear hD hE
  by_cases htu : u = []
  · rw [decide_eq_true htu.symm] at hq
    have HT := Lib.hid htu
    clear htu
    go_enter Tryz.func66, Tryz.ntmps66
    go_wp2_with fail
    refine HN.out.mono ?_
    rintro e w1 ⟨rfl, hr, hg⟩
    go_wp2_with fail
    refine (need_yes _).mono ?_
    rintro e w' ⟨rfl, rfl⟩
    go_wp2_with fail
    go_end0
    exact ⟨⟨fun _ => rfl, fun hn => absurd HT.out hn⟩, hg⟩
  · rw [decide_eq_false (fun e => htu e.symm)] at hq
    have HT := Lib.hid htu
    clear htu
    go_enter Tryz.func66, Tryz.ntmps66
    go_wp2_with fail
    refine HN.out.mono ?_
    rintro e w1 ⟨rfl, hr, hg⟩
    go_wp2_with fail
    refine (need_no _).mono ?_
    rintro e w' ⟨rfl, rfl⟩
    exact ⟨rfl, ⟨fun ht => absurd ht HT.out, fun _ => rfl⟩, hg⟩
set_option maxHeartbeats 1000000 in
theorem take_bad {b : Nat} {w : World} (h : RS w b [] true) (u : Tok) : Calls Tryz.prog 66 #[rp b, bs u] w (Pan b w) := by
  have HN := Lib.hid (next_bad h)
  clear h
  unfold bs rp at *
  go_enter Tryz.func66, Tryz.ntmps66
  go_wp2_with fail
  refine HN.out.mono ?_
  rintro e w1 ⟨rfl, hg⟩
  exact ⟨rfl, rfl, hg⟩
/- take, of a word -/
theorem take_any {b : Nat} {w : World} {ts : List Tok} {bad : Bool} (h : RS w b ts bad) (u : Tok) (hu : u ≠ []) : Calls Tryz.prog 66 #[rp b, bs u] w fun e w' => (match takeT u ts with | some r => e = .returned (.tuple #[]) ∧ RS w' b r bad | none => e = .panicked wrong) ∧ w.grownBy w' (some b) := by
  cases ts with
  | nil =>
    cases bad with
    | true => exact (take_bad h u).mono fun e w' ⟨a, q⟩ => ⟨a, q⟩
    | false =>
      refine (take_end h u).mono fun e w' ⟨a, q⟩ => ⟨?_, q⟩
      exact a.2 hu
  | cons t r =>
    refine (take_tok h u).mono fun e w' ⟨a, q⟩ => ⟨?_, q⟩
    by_cases htu : t = u
    · rw [show takeT u (t :: r) = some r from if_pos htu]
      exact a.1 htu
    · rw [show takeT u (t :: r) = none from if_neg htu]
      exact a.2 htu
end Go.Proofs.YtggkkjnfonbpkaaGreatDoor

/- What the reader's piece calls: slices.Index over strings, Trim, Atoi, wrap; what an expression's end looks like. -/
namespace Go.Proofs.YtggkkjnfonbpkaaGreatDoor
open Go.RowKit Hach

def ixI (ss : List Tok) (t : Tok) : Int := match ix ss t with
  | some k => (k : Int)
  | none => -1
theorem ix_some : ∀ {ss : List Tok} {t : Tok} {k : Nat}, k < ss.length → ss.getD k [] = t → (∀ j, j < k → ss.getD j [] ≠ t) → ix ss t = some k
  | [], t, k, h, _, _ => absurd h (by simp)
  | x :: ss, t, 0, _, he, _ => by
    have : x = t := by simpa using he
    rw [ix, if_pos this]
  | x :: ss, t, k + 1, hk, he, hn => by
    have hx : x ≠ t := by simpa using hn 0 (by omega)
    rw [ix, if_neg hx, ix_some (k := k) (by simpa using hk) (by simpa using he) (fun j hj => by simpa using hn (j + 1) (by omega))]
    rfl
theorem ix_none : ∀ {ss : List Tok} {t : Tok}, (∀ j, j < ss.length → ss.getD j [] ≠ t) → ix ss t = none
  | [], t, _ => rfl
  | x :: ss, t, hn => by
    have hx : x ≠ t := by simpa using hn 0 (by simp)
    rw [ix, if_neg hx, ix_none (fun j hj => by simpa using hn (j + 1) (by simpa using hj))]
    rfl
set_option maxHeartbeats 1000000 in
theorem index_any (ss : List Tok) (t : Tok) (g : Nat) (w : World) (hR : RowS w g ss) (hl : ss.length < 4294967296) :
    Calls Tryz.prog 88 #[.slice (some ⟨g, 0, none⟩) ss.length ss.length, bs t] w fun e w' => e = .returned (.int .i64 (ixI ss t)) ∧ w' = w := by
  unfold bs
  obtain ⟨D, hD⟩ : ∃ D : ByteArray, ⟨t.toArray⟩ = D := ⟨_, rfl⟩
  have HD := Lib.hid hD
  rw [hD]
  clear hD
  go_enter Tryz.func88, Tryz.ntmps88
  go_wp2_with fail
  go_loop [8] (fun kv => ∃ k : Nat, k ≤ ss.length ∧ kv = .int .i64 k ∧ Hid (∀ j, j < k → ss.getD j [] ≠ t)) (fun kv => ss.length - (intOf kv).toNat)
  case atStart => exact ⟨0, Nat.zero_le _, rfl, Lib.hid (fun j hj => absurd hj (by omega))⟩
  case round =>
    obtain ⟨k, hk, rfl, HA⟩ := hrel
    by_cases hlt : k < ss.length
    · have hc := hR.2 k hlt
      have tk : decide (k < ss.length) = true := by simp; omega
      obtain ⟨u, hu⟩ : ∃ u, ss.getD k [] = u := ⟨_, rfl⟩
      rw [hu] at hc
      have HU := Lib.hid hu
      obtain ⟨E, hE⟩ : ∃ E : ByteArray, ⟨u.toArray⟩ = E := ⟨_, rfl⟩
      have hq1 := bs_eq t u D E HD.out hE
      have hq2 := bs_eq u t E D hE HD.out
      rw [hE] at hc
      clear hu hE
      by_cases htu : t = u
      · have HX := Lib.hid (show ixI ss t = k by unfold ixI; rw [ix_some hlt (HU.out.trans htu.symm) HA.out])
        rw [decide_eq_true htu] at hq1
        rw [decide_eq_true htu.symm] at hq2
        clear htu
        go_wp2_with fail
        go_ret
        exact ⟨by rw [HX.out]; rfl, rfl⟩
      · have HN : Hid (∀ j, j < k + 1 → ss.getD j [] ≠ t) := Lib.hid (fun j hj => by
          by_cases hjk : j = k
          · subst hjk; rw [HU.out]; exact fun e => htu e.symm
          · exact HA.out j (by omega))
        rw [decide_eq_false htu] at hq1
        rw [decide_eq_false (fun e => htu e.symm)] at hq2
        clear htu
        go_wp2_with fail
        go_round
        case rel => exact ⟨k + 1, by omega, by go_num, HN⟩
        case measure => simp [intOf]; omega
    · have HX := Lib.hid (show ixI ss t = -1 by unfold ixI; rw [ix_none (fun j hj => HA.out j (by omega))])
      have tk : decide (k < ss.length) = false := by simp; omega
      go_wp2_with fail
      go_ret
      exact ⟨by rw [HX.out]; rfl, rfl⟩
/- Trim, of a string in quotes -/
theorem drop_head {p : UInt8 → Bool} {l : List UInt8} (h : ∀ c, l.head? = some c → p c = false) : l.dropWhile p = l := by
  cases l with
  | nil => rfl
  | cons c l => rw [List.dropWhile_cons, if_neg (by rw [h c rfl]; simp)]
theorem trim_q {q : List UInt8} (h : q.all notQ = true) : Lib.trimB (34 :: (q ++ [34])) 34 = q := by
  have hq : ∀ c ∈ q, (c == (34 : UInt8)) = false := fun c hc => by
    have := List.all_eq_true.1 h c hc
    unfold notQ at this
    rw [beq_eq_false_iff_ne]
    rintro rfl
    simp at this
  unfold Lib.trimB Lib.trimRightB Lib.trimLeftB
  have e : (34 :: (q ++ [34]) : List UInt8).reverse = 34 :: (q.reverse ++ [34]) := by simp
  rw [e, List.dropWhile_cons, if_pos (by rfl)]
  cases hqe : q with
  | nil => rfl
  | cons c q' =>
    have hd : (q.reverse ++ [34]).dropWhile (· == (34 : UInt8)) = q.reverse ++ [34] := by
      refine drop_head fun c hc => ?_
      cases hr : q.reverse with
      | nil => rw [List.reverse_eq_nil_iff] at hr; rw [hr] at hqe; cases hqe
      | cons x y =>
        rw [hr] at hc
        simp only [List.cons_append, List.head?_cons, Option.some.injEq] at hc
        subst hc
        exact hq x (by rw [← List.mem_reverse, hr]; simp)
    rw [← hqe, hd]
    have : (q.reverse ++ [34]).reverse = 34 :: q := by simp
    rw [this, List.dropWhile_cons, if_pos (by rfl)]
    exact drop_head fun c hc => hq c (List.mem_of_mem_head? hc)
/- numbers -/
def dv (acc : Nat) (l : List UInt8) : Nat := l.foldl (fun n c => 10 * n + (c.toNat - 48)) acc
theorem dv_le : ∀ (l : List UInt8) (acc : Nat), acc ≤ dv acc l
  | [], acc => Nat.le_refl _
  | c :: l, acc => by
    have := dv_le l (10 * acc + (c.toNat - 48))
    show acc ≤ dv (10 * acc + (c.toNat - 48)) l
    omega
theorem dv_lt : ∀ (l : List UInt8) (acc : Nat), l.all isDig = true → dv acc l < (acc + 1) * 10 ^ l.length
  | [], acc, _ => by simp [dv]
  | c :: l, acc, h => by
    rw [List.all_cons, Bool.and_eq_true] at h
    have h1 := dv_lt l (10 * acc + (c.toNat - 48)) h.2
    have h2 := h.1
    unfold isDig at h2
    simp only [Bool.and_eq_true, decide_eq_true_eq] at h2
    show dv (10 * acc + (c.toNat - 48)) l < _
    rw [List.length_cons, Nat.pow_succ]
    have h3 : (10 * acc + (c.toNat - 48) + 1) * 10 ^ l.length ≤ (acc + 1) * (10 ^ l.length * 10) := by
      rw [Nat.mul_comm (10 ^ l.length) 10, ← Nat.mul_assoc]
      exact Nat.mul_le_mul_right _ (by omega)
    omega
theorem parse_dv : ∀ (l : List UInt8) (acc : Nat), l.all isDig = true → dv acc l < 18446744073709551616 → Lib.parseUint10 acc l = .ok (dv acc l)
  | [], acc, _, _ => rfl
  | c :: l, acc, h, hb => by
    rw [List.all_cons, Bool.and_eq_true] at h
    have h2 := h.1
    unfold isDig at h2
    simp only [Bool.and_eq_true, decide_eq_true_eq] at h2
    have hb' : dv (10 * acc + (c.toNat - 48)) l < 18446744073709551616 := hb
    have hle := dv_le l (10 * acc + (c.toNat - 48))
    rw [Lib.parseUint10, if_pos h2, if_neg (by omega), if_neg (by omega), show acc * 10 + (c.toNat - 48) = 10 * acc + (c.toNat - 48) by omega, parse_dv l _ h.2 hb']
    rfl
theorem dval_lt {l : List UInt8} (h : l.all isDig = true) (hl : l.length ≤ 10) : dval l ≤ 9999999999 := by
  have h1 : dval l < (0 + 1) * 10 ^ l.length := dv_lt l 0 h
  have h2 : 10 ^ l.length ≤ 10 ^ 10 := Nat.pow_le_pow_right (by omega) hl
  omega
theorem mag_dval {c : UInt8} {l : List UInt8} (h : (c :: l).all isDig = true) (hl : l.length ≤ 9) : Lib.parseMag (c :: l) = .ok (dval (c :: l)) := by
  have h1 := dval_lt h (by simpa using hl)
  unfold Lib.parseMag
  rw [if_neg (by simp)]
  exact parse_dv (c :: l) 0 h (by show dval (c :: l) < _; omega)
theorem atoi_num {c : UInt8} {l : List UInt8} (h : (c :: l).all isDig = true) (hl : l.length ≤ 9) : Lib.atoiAll (c :: l) = .ok ((dval (c :: l) : Nat) : Int) := by
  have h1 := dval_lt h (by simpa using hl)
  have h2 : isDig c = true := by rw [List.all_cons, Bool.and_eq_true] at h; exact h.1
  unfold isDig at h2
  simp only [Bool.and_eq_true, decide_eq_true_eq] at h2
  rw [Lib.atoiAll_plain c l (by omega) (by omega), mag_dval h hl]
  simp only [Lib.signless]
  rw [if_neg (by omega)]
theorem atoi_neg {c : UInt8} {l : List UInt8} (h : (c :: l).all isDig = true) (hl : l.length ≤ 9) : Lib.atoiAll (45 :: c :: l) = .ok (-((dval (c :: l) : Nat) : Int)) := by
  have h1 := dval_lt h (by simpa using hl)
  rw [Lib.atoiAll_minus, mag_dval h hl]
  simp only [Lib.signed]
  rw [if_neg (by omega)]
/- what is no number -/
def NoNum (l : List UInt8) : Prop := (∀ v, Lib.atoiAll l ≠ .ok v) ∧ Lib.atoiAll l ≠ .range
theorem no_first {c : UInt8} {l : List UInt8} (h43 : c.toNat ≠ 43) (h45 : c.toNat ≠ 45) (hd : ¬ (48 ≤ c.toNat ∧ c.toNat ≤ 57)) : NoNum (c :: l) := by
  have h1 : Lib.atoiAll (c :: l) = Lib.signless (Lib.parseMag (c :: l)) := Lib.atoiAll_plain c l h43 h45
  have h2 : Lib.parseMag (c :: l) = Lib.parseUint10 0 (c :: l) := by unfold Lib.parseMag; rw [if_neg (by simp)]
  unfold NoNum
  rw [h1, h2, Lib.parseUint10, if_neg hd]
  exact ⟨fun v h => by simp [Lib.signless] at h, fun h => by simp [Lib.signless] at h⟩
theorem no_word {c : UInt8} {l : List UInt8} (h : isLet c = true) : NoNum (c :: l) := by
  unfold isLet at h
  simp only [Bool.and_eq_true, decide_eq_true_eq] at h
  exact no_first (by omega) (by omega) (by omega)
theorem no_sign {c : UInt8} (h : isSg c = true ∨ c.toNat = 45) : NoNum [c] := by
  by_cases h43 : c.toNat = 43
  · obtain rfl : c = 43 := u8_eq (n := 43) h43 (by decide)
    unfold NoNum
    rw [Lib.atoiAll_plus]
    exact ⟨fun v h => by simp [Lib.parseMag, Lib.signless] at h, fun h => by simp [Lib.parseMag, Lib.signless] at h⟩
  · by_cases h45 : c.toNat = 45
    · obtain rfl : c = 45 := u8_eq (n := 45) h45 (by decide)
      unfold NoNum
      rw [Lib.atoiAll_minus]
      exact ⟨fun v h => by simp [Lib.parseMag, Lib.signed] at h, fun h => by simp [Lib.parseMag, Lib.signed] at h⟩
    · have h1 := h.resolve_right h45
      unfold isSg at h1
      simp only [decide_eq_true_eq] at h1
      exact no_first h43 h45 (by omega)
theorem atoi_ok {t : Tok} {v : Int} (h : Lib.atoiAll t = .ok v) (ht : t.length ≤ 4096) (w : World) : Calls Tryz.prog 103 #[bs t] w fun e w' => e = .returned (.tuple #[.int .i64 v, .nilIface]) ∧ Ext w w' := by
  have hsz := toArr_size t
  refine (Tryz.strconv_Atoi_ok ⟨t.toArray⟩ (by rw [hsz]; omega) v h w).mono ?_
  rintro e w' ⟨rfl, hw⟩
  refine ⟨rfl, ?_⟩
  rcases hw with rfl | ⟨u, rfl⟩
  · exact Ext.refl _
  · exact Joins.below_bytesWorld _ w _ u (Nat.le_refl _)
theorem atoi_no {t : Tok} (hn : NoNum t) (ht : t.length ≤ 4096) (w : World) (htab : Tabs w) : Calls Tryz.prog 103 #[bs t] w fun e w' => ∃ v te pe, e = .returned (.tuple #[.int .i64 v, .iface te pe]) ∧ Ext w w' := by
  have hsz := toArr_size t
  obtain ⟨_, _, ⟨e2, c2, k2⟩, _⟩ := htab
  cases h : Lib.atoiAll t
  · exact absurd h (hn.1 _)
  · refine (show Calls Tryz.prog 103 #[.string ⟨t.toArray⟩] w _ from Any.strconv_Atoi_syntax Tryz.laysC172 ⟨t.toArray⟩ (by rw [hsz]; omega) h e2 w c2 k2).mono ?_
    rintro e w' ⟨N, rfl, _, _, hb⟩
    exact ⟨_, _, _, rfl, hb⟩
  · exact absurd h hn.2
end Go.Proofs.YtggkkjnfonbpkaaGreatDoor
