/- The text of an expression is read as it: plain. -/
import Derived.Test.YtmiencglfhpmeaaGreatDoorMQXp
set_option linter.unusedSimpArgs false
set_option linter.unusedVariables false
namespace Go.Proofs.YtmiencglfhpmeaaGreatDoor
open Go.RowKit Hach
def Bd (s : List UInt8) : Prop := ∀ c, s.head? = some c → c.toNat = 32 ∨ c.toNat = 41
theorem Bd.lets {s : List UInt8} (h : Bd s) : spn isLet s = 0 := spn_zero fun c hc => by
 unfold isLet
 have : ¬ 97 ≤ c.toNat := by rcases h c hc with e | e <;> omega
 rw [decide_eq_false this]; rfl
theorem Bd.digs {s : List UInt8} (h : Bd s) : spn isDig s = 0 := spn_zero fun c hc => by
 unfold isDig
 have : ¬ 48 ≤ c.toNat := by rcases h c hc with e | e <;> omega
 rw [decide_eq_false this]; rfl
theorem dig_let {c : UInt8} (h : isDig c = true) : isLet c = false := by
 unfold isDig at h
 simp only [Bool.and_eq_true, decide_eq_true_eq] at h
 unfold isLet
 rw [decide_eq_false (show ¬ 97 ≤ c.toNat by omega)]; rfl
theorem tok_front {t : Tok} (h : IsTok t) {s : List UInt8} (hb : Bd s) : tokLen (t ++ s) = t.length := by
 cases h with
 | word c t h ht =>
  rw [List.cons_append, tokLen_cons, if_pos h, spn_append ht, hb.lets, List.length_cons]; omega
 | num c t h ht hl hz =>
  rw [List.cons_append, tokLen_cons, dig_let h, if_neg (by simp), if_pos h, spn_append ht, hb.digs, Nat.add_zero, List.length_cons, Nat.add_comm]
  refine if_pos ⟨hl, ?_⟩
  rcases hz with h | h
  ·exact .inl h
  ·exact .inr (by rw [h]; rfl)
 | neg c t h ht hl hz =>
  rw [List.cons_append, List.cons_append, tokLen_cons, if_neg (by decide), if_neg (by decide), if_pos (by decide)]
  simp only
  rw [if_pos h, spn_append ht, hb.digs, Nat.add_zero, if_pos ⟨hl, hz⟩, List.length_cons, List.length_cons]; omega
 | str q hq hn =>
  have e : spn notQ (q ++ [34] ++ s) = q.length := by
   rw [List.append_assoc, spn_append hn, List.cons_append, List.nil_append, spn]
   rfl
  have e2 : (q ++ [34] ++ s).take q.length = q := by rw [List.append_assoc]; simp
  rw [List.cons_append, tokLen_cons, if_neg (by decide), if_neg (by decide), if_neg (by decide), if_pos (by decide), e, e2, if_pos ⟨by simp, hq⟩]
  simp
 | sign c h =>
  rw [List.cons_append, List.nil_append, tokLen_cons]
  have hl : isLet c = false := by
   unfold isLet
   rw [decide_eq_false (show ¬ 97 ≤ c.toNat from ?_)]
   ·rfl
   ·rcases h with h | h
    ·unfold isSg at h; simp only [decide_eq_true_eq] at h; omega
    ·omega
  have hd : isDig c = false := by
   unfold isDig
   have : ¬ (48 ≤ c.toNat ∧ c.toNat ≤ 57) := by
    rcases h with h | h
    ·unfold isSg at h; simp only [decide_eq_true_eq] at h; omega
    ·omega
   by_cases h1 : 48 ≤ c.toNat
   ·rw [decide_eq_false (show ¬ c.toNat ≤ 57 by omega), Bool.and_false]
   ·rw [decide_eq_false h1]; rfl
  rw [if_neg (by rw [hl]; simp), if_neg (by rw [hd]; simp)]
  by_cases h45 : c.toNat = 45
  ·rw [if_pos h45]
   cases s with
   | nil => rfl
   | cons d u =>
    have hdd : isDig d = false := by
     unfold isDig
     have := hb d rfl
     rw [decide_eq_false (show ¬ 48 ≤ d.toNat by omega)]; rfl
    simp only
    rw [if_neg (by rw [hdd]; simp)]; rfl
  ·have hs := h.resolve_right h45
   rw [if_neg h45, if_neg ?_, if_pos hs]
   ·rfl
   ·unfold isSg at hs; simp only [decide_eq_true_eq] at hs; omega
theorem open_front (s : List UInt8) : tokLen ([40] ++ s) = 1 := by
 rw [List.cons_append, List.nil_append, tokLen_cons, if_neg (by decide), if_neg (by decide), if_neg (by decide), if_neg (by decide), if_pos (by decide)]
theorem IsTok.first {t : Tok} (h : IsTok t) : ∃ c u, t = c :: u ∧ c.toNat ≠ 32 := by
 cases h with
 | word c t h ht => exact ⟨c, t, rfl, fun e => by unfold isLet at h; simp only [Bool.and_eq_true, decide_eq_true_eq] at h; omega⟩
 | num c t h ht hl hz => exact ⟨c, t, rfl, fun e => by unfold isDig at h; simp only [Bool.and_eq_true, decide_eq_true_eq] at h; omega⟩
 | neg c t h ht hl hz => exact ⟨45, c :: t, rfl, by decide⟩
 | str q hq hn => exact ⟨34, _, rfl, by decide⟩
 | sign c h => exact ⟨c, [], rfl, fun e => by
   rcases h with h | h
   ·unfold isSg at h; simp only [decide_eq_true_eq] at h; omega
   ·omega⟩
theorem lt_tok {t : Tok} {s : List UInt8} (h : IsTok t) (hl : tokLen (t ++ s) = t.length) : lt (t ++ s) = (t :: (lt s).1, (lt s).2) := by
 obtain ⟨c, u, rfl, hc⟩ := h.first
 rw [List.cons_append] at hl ⊢
 rw [lt_cons, if_neg hc, hl, if_neg (by simp)]
 have e1 : (c :: (u ++ s)).take (c :: u).length = c :: u := by rw [← List.cons_append, List.take_left']; rfl
 have e2 : (c :: (u ++ s)).drop (c :: u).length = s := by rw [← List.cons_append, List.drop_left']; rfl
 rw [e1, e2]
theorem lt_blanks (s : List UInt8) : ∀ k, lt (List.replicate k 32 ++ s) = lt s
 | 0 => rfl
 | k + 1 => by rw [List.replicate_succ, List.cons_append, lt_blank _ _ (by decide), lt_blanks s k]
abbrev Itm := Tok × Nat
def spell : List Itm → List UInt8
 | [] => []
 | (t, k) :: r => t ++ (List.replicate k 32 ++ spell r)
def Tl (l : List Itm) : Prop := l = [] ∨ ∃ k r, l = ([41], k) :: r
def Sep : List Itm → Prop
 | [] => True
 | (t, k) :: r => IsTok t ∧ (k = 0 → t = [40] ∨ Tl r) ∧ Sep r
theorem Tl.bd {l : List Itm} (h : Tl l) : Bd (spell l) := by
 rcases h with rfl | ⟨k, r, rfl⟩
 ·intro c hc; cases hc
 ·intro c hc
  simp only [spell, List.cons_append, List.head?_cons, Option.some.injEq] at hc
  subst hc; exact .inr rfl
theorem bd_blanks {k : Nat} (hk : k ≠ 0) (s : List UInt8) : Bd (List.replicate k 32 ++ s) := by
 obtain ⟨j, rfl⟩ : ∃ j, k = j + 1 := ⟨k - 1, by omega⟩
 intro c hc
 simp only [List.replicate_succ, List.cons_append, List.head?_cons, Option.some.injEq] at hc
 subst hc; exact .inl rfl
theorem lt_spell : ∀ l : List Itm, Sep l → lt (spell l) = (l.map (·.1), false)
 | [], _ => rfl
 | (t, k) :: r, h => by
  obtain ⟨h1, h2, h3⟩ := h
  have hf : tokLen (t ++ (List.replicate k 32 ++ spell r)) = t.length := by
   by_cases hk : k = 0
   ·rcases h2 hk with rfl | ht
    ·exact open_front _
    ·refine tok_front h1 ?_
     subst hk
     exact ht.bd
   ·exact tok_front h1 (bd_blanks hk _)
  rw [spell, lt_tok h1 hf, lt_blanks, lt_spell r h3]
  rfl
theorem dec_dig (u : Nat) : (Lib.decDigits u).all isDig = true := by
 rw [List.all_eq_true]
 intro c hc
 have := Num.dec_digits u c hc
 unfold isDig
 simp only [Bool.and_eq_true, decide_eq_true_eq]
 exact this
theorem dec_lead (u : Nat) (hu : 1 ≤ u) : ∃ c r, Lib.decDigits u = c :: r ∧ c.toNat ≠ 48 := by
 induction u using Nat.strongRecOn with
 | _ u ih =>
  rw [Lib.decDigits]
  split
  ·rename_i h
   exact ⟨_, [], rfl, by rw [Num.dig_toNat h]; omega⟩
  ·rename_i h
   obtain ⟨c, r, e, hc⟩ := ih (u / 10) (by omega) (by omega)
   exact ⟨c, r ++ [UInt8.ofNat (48 + u % 10)], by rw [e]; rfl, hc⟩
theorem dec_small (n : Nat) : ∀ u : Nat, 0 < n → u < 10 ^ n → (Lib.decDigits u).length ≤ n := by
 induction n with
 | zero => intro u h; omega
 | succ n ih =>
  intro u _ hu
  rw [Lib.decDigits]
  split
  ·simp
  ·rename_i h
   rw [Nat.pow_succ] at hu
   by_cases hn : n = 0
   ·subst hn; omega
   ·have := ih (u / 10) (by omega) (by omega)
    simp; omega
theorem dec_zero : Lib.decDigits 0 = [48] := by rw [Lib.decDigits]; rfl
theorem num_tok (u : Nat) (hu : u < 10000000000) : IsTok (Lib.decDigits u) := by
 have hd := dec_dig u
 have hl := dec_small 10 u (by omega) hu
 by_cases h0 : u = 0
 ·subst h0
  rw [dec_zero]
  exact IsTok.num 48 [] (by decide) rfl (by simp) (.inr rfl)
 ·obtain ⟨c, r, e, hc⟩ := dec_lead u (by omega)
  rw [e] at hd hl ⊢
  rw [List.all_cons, Bool.and_eq_true] at hd
  exact IsTok.num c r hd.1 hd.2 (by simpa using hl) (.inl hc)
theorem neg_tok (u : Nat) (h1 : 1 ≤ u) (hu : u < 10000000000) : IsTok (45 :: Lib.decDigits u) := by
 have hd := dec_dig u
 have hl := dec_small 10 u (by omega) hu
 obtain ⟨c, r, e, hc⟩ := dec_lead u h1
 rw [e] at hd hl ⊢
 rw [List.all_cons, Bool.and_eq_true] at hd
 exact IsTok.neg c r hd.1 hd.2 (by simpa using hl) hc
theorem dval_app (l : List UInt8) (c : UInt8) : dval (l ++ [c]) = 10 * dval l + (c.toNat - 48) := by
 unfold dval; rw [List.foldl_append]; rfl
theorem dval_dec (u : Nat) : dval (Lib.decDigits u) = u := by
 induction u using Nat.strongRecOn with
 | _ u ih =>
  rw [Lib.decDigits]
  split
  ·rename_i h
   show 10 * 0 + ((UInt8.ofNat (48 + u)).toNat - 48) = u
   rw [Num.dig_toNat h]; omega
  ·rename_i h
   rw [dval_app, ih (u / 10) (by omega), Num.dig_toNat (by omega)]; omega
theorem itoa_tok {n : Int} (h1 : -1073741824 ≤ n) (h2 : n ≤ 1073741824) : IsTok (Lib.itoa n) := by
 unfold Lib.itoa
 split
 ·exact neg_tok _ (by omega) (by omega)
 ·exact num_tok _ (by omega)
theorem const_itoa (n : Int) : constOf (Lib.itoa n) = some ⟨1, n, false, []⟩ ∧ Lib.itoa n ≠ [40] ∧ ix nmL (Lib.itoa n) = none ∧ Lib.itoa n ≠ tNot ∧ Lib.itoa n ≠ tIf := by
 have key : ∀ (c : UInt8) (u : List UInt8), (isDig c = true ∨ (c = 45 ∧ u ≠ [])) → (c :: u ≠ tTrue ∧ c :: u ≠ tFalse ∧ c :: u ≠ [40] ∧ c :: u ≠ tNot ∧ c :: u ≠ tIf) ∧ ix nmL (c :: u) = none := by
  intro c u h
  have hc : ∀ d, (d = 116 ∨ d = 102 ∨ d = 40 ∨ d = 110 ∨ d = 105 ∨ d = 107 ∨ d = 99 ∨ d = 119 ∨ d = 108 ∨ d = 115 ∨ d = 104 ∨ d = 114) → c ≠ d := by
   rintro d hd rfl
   rcases h with h | ⟨h, _⟩
   ·rcases hd with rfl | rfl | rfl | rfl | rfl | rfl | rfl | rfl | rfl | rfl | rfl | rfl <;> revert h <;> decide
   ·subst h; revert hd; decide
  refine ⟨⟨?_, ?_, ?_, ?_, ?_⟩, ?_⟩
  ·intro e; exact hc 116 (by decide) (List.cons.inj e).1
  ·intro e; exact hc 102 (by decide) (List.cons.inj e).1
  ·intro e; exact hc 40 (by decide) (List.cons.inj e).1
  ·intro e; exact hc 110 (by decide) (List.cons.inj e).1
  ·intro e; exact hc 105 (by decide) (List.cons.inj e).1
  ·refine ix_none fun j hj => ?_
   have hj' : j < 9 := hj
   rcases (by omega : j = 0 ∨ j = 1 ∨ j = 2 ∨ j = 3 ∨ j = 4 ∨ j = 5 ∨ j = 6 ∨ j = 7 ∨ j = 8) with rfl | rfl | rfl | rfl | rfl | rfl | rfl | rfl | rfl <;> intro e <;> exact hc _ (by decide) (List.cons.inj e).1.symm
 unfold Lib.itoa
 split
 ·rename_i hn
  obtain ⟨c, r, e, hc⟩ := dec_lead n.natAbs (by omega)
  have hv := dval_dec n.natAbs
  rw [e] at hv ⊢
  obtain ⟨⟨k1, k2, k3, k4, k5⟩, k6⟩ := key 45 (c :: r) (.inr ⟨rfl, by simp⟩)
  refine ⟨?_, k3, k6, k4, k5⟩
  rw [const_rest k1 k2, constR_cons, if_neg (by decide), if_neg (by decide), if_pos ⟨by decide, by simp⟩, hv]
  congr 2; omega
 ·rename_i hn
  obtain ⟨c, r, e, hc⟩ := Num.head_dec n.toNat
  have hd := dec_dig n.toNat
  have hv := dval_dec n.toNat
  rw [e] at hd hv ⊢
  rw [List.all_cons, Bool.and_eq_true] at hd
  obtain ⟨⟨k1, k2, k3, k4, k5⟩, k6⟩ := key c r (.inl hd.1)
  refine ⟨?_, k3, k6, k4, k5⟩
  rw [const_rest k1 k2, constR_cons, if_neg (by omega), if_pos hd.1, hv]
  congr 2; omega
theorem con_leaf {x : Vl} (h : vlRight x = true) : IsTok (tx 1 0 x []) ∧ constOf (tx 1 0 x []) = some x ∧ tx 1 0 x [] ≠ [40] ∧ ix nmL (tx 1 0 x []) = none ∧ tx 1 0 x [] ≠ tNot ∧ tx 1 0 x [] ≠ tIf := by
 obtain ⟨ty, n, b, s⟩ := x
 have ht := right_ty h
 simp only at ht
 simp only [tx, if_true]
 unfold vlRight at h
 by_cases h1 : ty = 1
 ·subst h1
  simp at h
  obtain ⟨⟨⟨k1, k2⟩, k3⟩, k4⟩ := h
  subst k3; subst k4
  obtain ⟨c1, c2, c3, c4, c5⟩ := const_itoa n
  simp only [if_true]
  exact ⟨itoa_tok k1 k2, c1, c2, c3, c4, c5⟩
 ·by_cases h2 : ty = 2
  ·subst h2
   simp at h
   obtain ⟨k1, k2⟩ := h
   subst k1; subst k2
   simp only [if_neg h1, if_true]
   cases b
   ·exact ⟨IsTok.word 102 _ (by decide) (by decide), rfl, by decide, by decide, by decide, by decide⟩
   ·exact ⟨IsTok.word 116 _ (by decide) (by decide), rfl, by decide, by decide, by decide, by decide⟩
  ·obtain rfl : ty = 3 := by omega
   simp at h
   obtain ⟨⟨⟨k1, k2⟩, k3⟩, k4⟩ := h
   subst k2; subst k3
   simp only [if_neg h1, if_neg h2]
   have hq : s.all okQ = true ∧ s.all notQ = true := by
    constructor <;> (rw [List.all_eq_true]; intro c hc; have := k1 c hc; unfold okB at this; simp only [Bool.and_eq_true, decide_eq_true_eq] at this)
    ·unfold okQ; simp only [Bool.and_eq_true, decide_eq_true_eq]; exact this.1
    ·unfold notQ; rw [decide_eq_true_eq]; exact this.2
   have hne : ∀ t : Tok, t.head? ≠ some 34 → (34 :: (s ++ [34]) : Tok) ≠ t := by
    rintro t ht rfl; exact ht rfl
   refine ⟨IsTok.str s hq.1 hq.2, ?_, hne _ (by decide), ix_none fun j hj => ?_, hne _ (by decide), hne _ (by decide)⟩
   ·rw [const_rest (hne _ (by decide)) (hne _ (by decide)), constR_cons, if_pos (by decide)]
    simp
   ·have hj' : j < 9 := hj
    rcases (by omega : j = 0 ∨ j = 1 ∨ j = 2 ∨ j = 3 ∨ j = 4 ∨ j = 5 ∨ j = 6 ∨ j = 7 ∨ j = 8) with rfl | rfl | rfl | rfl | rfl | rfl | rfl | rfl | rfl <;> exact fun e => hne _ (by decide) e.symm
theorem var_leaf {v : Int} (h : 1 ≤ v ∧ v ≤ 9) : ∃ k : Nat, v = (k : Int) + 1 ∧ IsTok (tx 2 v ⟨0, 0, false, []⟩ []) ∧ tx 2 v ⟨0, 0, false, []⟩ [] ≠ [40] ∧ ix nmL (tx 2 v ⟨0, 0, false, []⟩ []) = some k ∧ tx 2 v ⟨0, 0, false, []⟩ [] ≠ tNot ∧ tx 2 v ⟨0, 0, false, []⟩ [] ≠ tIf := by
 have key : ∀ j : Nat, j < 9 → ((nmL.getD j []).all isLet = true ∧ nmL.getD j [] ≠ []) ∧ nmL.getD j [] ≠ [40] ∧ ix nmL (nmL.getD j []) = some j ∧ nmL.getD j [] ≠ tNot ∧ nmL.getD j [] ≠ tIf := by decide
 refine ⟨(v - 1).toNat, by omega, ?_⟩
 obtain ⟨⟨k1, k1'⟩, k2, k3, k4, k5⟩ := key (v - 1).toNat (by omega)
 have e : tx 2 v ⟨0, 0, false, []⟩ [] = nmL.getD (v - 1).toNat [] := by
  simp only [tx, Int.reduceEq, if_true, if_false]
 rw [e]
 refine ⟨?_, k2, k3, k4, k5⟩
 cases ht : nmL.getD (v - 1).toNat [] with
 | nil => exact absurd ht k1'
 | cons c u =>
  rw [ht, List.all_cons, Bool.and_eq_true] at k1
  exact IsTok.word c u k1.1 k1.2
end Go.Proofs.YtmiencglfhpmeaaGreatDoor
namespace Go.Proofs.YtmiencglfhpmeaaGreatDoor
open Go.RowKit Hach
def vt (x : En) (e : Ex) : Vl := (e.val x).vl
theorem val_eq (x : En) (a b : Ex) : (exOp 6 [a, b]).val x = .bool (Vl.eq (a.val x).vl (b.val x).vl) := by unfold exOp; rw [Ex.val]; rfl
section
variable {x : En} {B : Nat} (hx : x.fits B) {a b c d : Ex} (ha : Rt a 2) (hb : Rt b 2) (hc : Rt c 1) (hd : Rt d 1)
include hx ha in
theorem vt_bool : (vt x a).ty = 2 := by
 obtain ⟨p, hp⟩ := (val_has x hx ha).b
 unfold vt; rw [hp]; rfl
include hx hc in
theorem vt_int : (vt x c).ty = 1 ∧ -1073741824 ≤ (vt x c).n ∧ (vt x c).n ≤ 1073741824 := by
 obtain ⟨p, hp, h1, h2⟩ := (val_has x hx hc).i
 unfold vt; rw [hp]; exact ⟨rfl, h1, h2⟩
end
theorem chk_of {e : Ex} {t : Int} (h : Rt e t) (hz : e.size ≤ 60) : chkT e = t ∧ chkE e = 0 := by
 have h1 := h.typed
 have h2 := h.pos
 unfold chkT chkE
 rw [if_neg (by omega), if_neg (by omega), if_neg (by omega)]
 exact ⟨h1, rfl⟩
theorem evV_of {e : Ex} {t : Int} (h : Rt e t) (hz : e.size ≤ 60) (x : En) : evV e x = vt x e := by
 unfold evV vt
 rw [if_pos (chk_of h hz).2]
theorem rt_ok {e : Ex} {t : Int} (h : Rt e t) : e.ok := by
 induction h with
 | con x h =>
  have h1 := right_ty h
  have h2 : (-1073741824 ≤ x.n ∧ x.n ≤ 1073741824) ∧ x.s.length ≤ 24 := by
   obtain ⟨ty, n, b, s⟩ := x
   unfold vlRight at h
   by_cases h1 : ty = 1
   ·subst h1; simp at h; exact ⟨h.1.1, by rw [h.2]; simp⟩
   ·by_cases h2 : ty = 2
    ·subst h2; simp at h; exact ⟨by simp only; omega, by rw [h.2]; simp⟩
    ·by_cases h3 : ty = 3
     ·subst h3; simp at h; exact ⟨by simp only; omega, h.2⟩
     ·simp [h1, h2, h3] at h
  exact ⟨by omega, by omega, by omega, by omega, by omega, trivial⟩
 | var v h => exact ⟨by omega, by omega, by omega, by omega, by simp, trivial⟩
 | not a ha iha => exact ⟨by omega, by omega, by omega, by omega, by simp, iha, trivial⟩
 | log op h a b ha hb iha ihb => exact ⟨by omega, by omega, by omega, by omega, by simp, iha, ihb, trivial⟩
 | eq t a b ha hb iha ihb => exact ⟨by omega, by omega, by omega, by omega, by simp, iha, ihb, trivial⟩
 | less a b ha hb iha ihb => exact ⟨by omega, by omega, by omega, by omega, by simp, iha, ihb, trivial⟩
 | sum op h a b ha hb iha ihb => exact ⟨by omega, by omega, by omega, by omega, by simp, iha, ihb, trivial⟩
 | ite t a b c ha hb hc iha ihb ihc => exact ⟨by omega, by omega, by omega, by omega, by simp, iha, ihb, ihc, trivial⟩
end Go.Proofs.YtmiencglfhpmeaaGreatDoor
namespace Go.Proofs.YtmiencglfhpmeaaGreatDoor
open Go.RowKit Hach
abbrev IF := Nat → List Itm
def pt (leaf : Bool) (f : IF) : IF := fun k => if leaf then f k else ([40], 0) :: (f 0 ++ [([41], k)])
def itx (op var : Int) (x : Vl) (ps : List IF) : IF := fun k =>
 if op = 1 ∨ op = 2 then [(tx op var x [], k)]
 else if op = 3 then (tNot, 1) :: (ps.getD 0 fun _ => []) k
 else if op = 13 then (tIf, 1) :: ((ps.getD 0 fun _ => []) 1 ++ ((tThen, 1) :: ((ps.getD 1 fun _ => []) 1 ++ ((tElse, 1) :: (ps.getD 2 fun _ => []) k))))
 else (ps.getD 0 fun _ => []) 1 ++ ((wdL.getD (op - 4).toNat [], 1) :: (ps.getD 1 fun _ => []) k)
mutual
def Ex.itm : Ex → IF
 | .mk op var ty n b s l => itx op var ⟨ty, n, b, s⟩ (Ex.pits l)
def Ex.pits : List Ex → List IF
 | [] => []
 | e :: l => pt e.l.isEmpty e.itm :: Ex.pits l
end
def Ex.pit (e : Ex) : IF := pt e.l.isEmpty e.itm
theorem itm_con (x : Vl) (k : Nat) : (Ex.mk 1 0 x.ty x.n x.b x.s []).itm k = [(tx 1 0 x [], k)] := rfl
theorem itm_var (v : Int) (k : Nat) : (Ex.mk 2 v 0 0 false [] []).itm k = [(tx 2 v ⟨0, 0, false, []⟩ [], k)] := rfl
theorem itm_not (a : Ex) (k : Nat) : (Ex.mk 3 0 0 0 false [] [a]).itm k = (tNot, 1) :: a.pit k := rfl
theorem itm_ite (a b c : Ex) (k : Nat) : (Ex.mk 13 0 0 0 false [] [a, b, c]).itm k = (tIf, 1) :: (a.pit 1 ++ ((tThen, 1) :: (b.pit 1 ++ ((tElse, 1) :: c.pit k)))) := rfl
theorem itm_two {op : Int} (h : 4 ≤ op ∧ op ≤ 12) (a b : Ex) (k : Nat) : (Ex.mk op 0 0 0 false [] [a, b]).itm k = a.pit 1 ++ ((wdL.getD (op - 4).toNat [], 1) :: b.pit k) := by
 show itx op 0 ⟨0, 0, false, []⟩ [a.pit, b.pit] k = _
 unfold itx
 rw [if_neg (by omega), if_neg (by omega), if_neg (by omega)]; rfl
theorem text_two {op : Int} (h : 4 ≤ op ∧ op ≤ 12) (a b : Ex) : (Ex.mk op 0 0 0 false [] [a, b]).text = a.piece ++ (32 :: (wdL.getD (op - 4).toNat [] ++ (32 :: b.piece))) := by
 rw [Ex.text, Ex.pieces_map]
 unfold tx
 rw [if_neg (by omega), if_neg (by omega), if_neg (by omega), if_neg (by omega)]
 rfl
theorem Rt.two {e : Ex} {t : Int} (h : Rt e t) : (∃ x, e = .mk 1 0 x.ty x.n x.b x.s [] ∧ vlRight x = true) ∨ (∃ v, e = .mk 2 v 0 0 false [] [] ∧ 1 ≤ v ∧ v ≤ 9) ∨ (∃ a, e = .mk 3 0 0 0 false [] [a] ∧ Rt a 2) ∨ (∃ op a b u, (4 ≤ op ∧ op ≤ 12) ∧ e = .mk op 0 0 0 false [] [a, b] ∧ Rt a u ∧ Rt b u) ∨ (∃ a b c, e = .mk 13 0 0 0 false [] [a, b, c] ∧ Rt a 2 ∧ Rt b t ∧ Rt c t) := by
 cases h with
 | con x h => exact .inl ⟨x, rfl, h⟩
 | var v h => exact .inr (.inl ⟨v, rfl, h⟩)
 | not a ha => exact .inr (.inr (.inl ⟨a, rfl, ha⟩))
 | log op h a b ha hb => exact .inr (.inr (.inr (.inl ⟨op, a, b, _, by omega, rfl, ha, hb⟩)))
 | eq t a b ha hb => exact .inr (.inr (.inr (.inl ⟨6, a, b, _, by omega, rfl, ha, hb⟩)))
 | less a b ha hb => exact .inr (.inr (.inr (.inl ⟨7, a, b, _, by omega, rfl, ha, hb⟩)))
 | sum op h a b ha hb => exact .inr (.inr (.inr (.inl ⟨op, a, b, _, by omega, rfl, ha, hb⟩)))
 | ite t a b c ha hb hc => exact .inr (.inr (.inr (.inr ⟨a, b, c, rfl, ha, hb, hc⟩)))
theorem spell_one (t : Tok) (k : Nat) (r : List Itm) : spell ((t, k) :: r) = t ++ (List.replicate k 32 ++ spell r) := rfl
theorem Ex.size_not (a : Ex) : (Ex.mk 3 0 0 0 false [] [a]).size = 1 + a.size := by rw [Ex.size]; simp [Ex.sizes]
theorem Ex.size_two (op : Int) (a b : Ex) : (Ex.mk op 0 0 0 false [] [a, b]).size = 1 + (a.size + b.size) := by rw [Ex.size]; simp [Ex.sizes]
theorem Ex.size_ite (a b c : Ex) : (Ex.mk 13 0 0 0 false [] [a, b, c]).size = 1 + (a.size + (b.size + c.size)) := by rw [Ex.size]; simp [Ex.sizes]
def Spells (e : Ex) : Prop := ∀ (k : Nat) (r : List Itm), spell (e.itm k ++ r) = e.text ++ (List.replicate k 32 ++ spell r)
theorem Spells.pit {e : Ex} (h : Spells e) (k : Nat) (r : List Itm) : spell (e.pit k ++ r) = e.piece ++ (List.replicate k 32 ++ spell r) := by
 unfold Ex.pit pt Ex.piece
 cases e.l.isEmpty with
 | true => exact h k r
 | false =>
  simp only [Bool.false_eq_true, if_false]
  rw [List.cons_append, spell_one, List.append_assoc, h 0]
  simp [spell]
theorem spells {e : Ex} {t : Int} (h : Rt e t) : Spells e := by
 have key : ∀ (n : Nat) (e : Ex) (t : Int), e.size ≤ n → Rt e t → Spells e := by
  intro n
  induction n with
  | zero => intro e t hs; have := e.size_pos; omega
  | succ n ih =>
   intro e t hs h k r
   rcases h.two with ⟨x, rfl, hx⟩ | ⟨v, rfl, hv⟩ | ⟨a, rfl, ha⟩ | ⟨op, a, b, u, ho, rfl, ha, hb⟩ | ⟨a, b, c, rfl, ha, hb, hc⟩
   ·rw [itm_con, List.cons_append, spell_one]; rfl
   ·rw [itm_var, List.cons_append, spell_one]; rfl
   ·rw [Ex.size_not] at hs
    rw [itm_not, List.cons_append, spell_one, (ih a 2 (by omega) ha).pit, Ex.text, Ex.pieces_map]
    simp [tx, Ex.pieces, Ex.piece]
   ·rw [Ex.size_two] at hs
    rw [itm_two ho, List.append_assoc, (ih a u (by omega) ha).pit, List.cons_append, spell_one, (ih b u (by omega) hb).pit, text_two ho]
    simp
   ·rw [Ex.size_ite] at hs
    rw [itm_ite, List.cons_append, spell_one, List.append_assoc, (ih a 2 (by omega) ha).pit, List.cons_append, spell_one, List.append_assoc, (ih b t (by omega) hb).pit, List.cons_append, spell_one, (ih c t (by omega) hc).pit, Ex.text, Ex.pieces_map]
    simp [tx, Ex.pieces, Ex.piece]
 exact key e.size e t (Nat.le_refl _) h
theorem sep_one {t : Tok} {k : Nat} {r : List Itm} (ht : IsTok t) (hk : k ≠ 0 ∨ t = [40] ∨ Tl r) (hr : Sep r) : Sep ((t, k) :: r) := by
 refine ⟨ht, fun e => ?_, hr⟩
 rcases hk with h | h | h
 ·exact absurd e h
 ·exact .inl h
 ·exact .inr h
def SepX (e : Ex) : Prop := ∀ (k : Nat) (r : List Itm), (k ≠ 0 ∨ Tl r) → Sep r → Sep (e.itm k ++ r)
theorem SepX.pit {e : Ex} (h : SepX e) {k : Nat} {r : List Itm} (hk : k ≠ 0 ∨ Tl r) (hr : Sep r) : Sep (e.pit k ++ r) := by
 unfold Ex.pit pt
 cases e.l.isEmpty with
 | true => exact h k r hk hr
 | false =>
  simp only [Bool.false_eq_true, if_false]
  rw [List.cons_append, List.append_assoc]
  refine sep_one (IsTok.sign 40 (.inl (by decide))) (.inr (.inl rfl)) (h 0 _ (.inr (.inr ⟨k, r, rfl⟩)) ?_)
  exact sep_one (IsTok.sign 41 (.inl (by decide))) (by rcases hk with h | h; exact .inl h; exact .inr (.inr h)) hr
theorem wd_tok (j : Nat) (hj : j < 9) : IsTok (wdL.getD j []) ∧ ix wdL (wdL.getD j []) = some j := by
 rcases (by omega : j = 0 ∨ j = 1 ∨ j = 2 ∨ j = 3 ∨ j = 4 ∨ j = 5 ∨ j = 6 ∨ j = 7 ∨ j = 8) with rfl | rfl | rfl | rfl | rfl | rfl | rfl | rfl | rfl
 ·exact ⟨IsTok.word 97 _ (by decide) (by decide), by decide⟩
 ·exact ⟨IsTok.word 111 _ (by decide) (by decide), by decide⟩
 ·exact ⟨IsTok.sign 61 (by decide), by decide⟩
 ·exact ⟨IsTok.sign 60 (by decide), by decide⟩
 ·exact ⟨IsTok.sign 43 (by decide), by decide⟩
 ·exact ⟨IsTok.sign 45 (by decide), by decide⟩
 ·exact ⟨IsTok.sign 42 (by decide), by decide⟩
 ·exact ⟨IsTok.word 109 _ (by decide) (by decide), by decide⟩
 ·exact ⟨IsTok.word 109 _ (by decide) (by decide), by decide⟩
theorem sepx {e : Ex} {t : Int} (h : Rt e t) : SepX e := by
 have key : ∀ (n : Nat) (e : Ex) (t : Int), e.size ≤ n → Rt e t → SepX e := by
  intro n
  induction n with
  | zero => intro e t hs; have := e.size_pos; omega
  | succ n ih =>
   intro e t hs h k r hk hr
   have hk' : ∀ t : Tok, k ≠ 0 ∨ t = [40] ∨ Tl r := fun t => by rcases hk with h | h; exact .inl h; exact .inr (.inr h)
   rcases h.two with ⟨x, rfl, hx⟩ | ⟨v, rfl, hv⟩ | ⟨a, rfl, ha⟩ | ⟨op, a, b, u, ho, rfl, ha, hb⟩ | ⟨a, b, c, rfl, ha, hb, hc⟩
   ·rw [itm_con]; exact sep_one (con_leaf hx).1 (hk' _) hr
   ·rw [itm_var]
    obtain ⟨j, _, h1, _⟩ := var_leaf hv
    exact sep_one h1 (hk' _) hr
   ·rw [Ex.size_not] at hs
    rw [itm_not]
    exact sep_one (IsTok.word 110 _ (by decide) (by decide)) (.inl (by omega)) ((ih a 2 (by omega) ha).pit hk hr)
   ·rw [Ex.size_two] at hs
    rw [itm_two ho, List.append_assoc]
    exact (ih a u (by omega) ha).pit (.inl (by omega)) (sep_one (wd_tok _ (by omega)).1 (.inl (by omega)) ((ih b u (by omega) hb).pit hk hr))
   ·rw [Ex.size_ite] at hs
    rw [itm_ite, List.cons_append, List.append_assoc, List.cons_append, List.append_assoc, List.cons_append]
    refine sep_one (IsTok.word 105 _ (by decide) (by decide)) (.inl (by omega)) ((ih a 2 (by omega) ha).pit (.inl (by omega)) ?_)
    refine sep_one (IsTok.word 116 _ (by decide) (by decide)) (.inl (by omega)) ((ih b t (by omega) hb).pit (.inl (by omega)) ?_)
    exact sep_one (IsTok.word 101 _ (by decide) (by decide)) (.inl (by omega)) ((ih c t (by omega) hc).pit hk hr)
 exact key e.size e t (Nat.le_refl _) h
def tks (l : List Itm) : List Tok := l.map (·.1)
theorem tks_cons (t : Tok) (k : Nat) (l : List Itm) : tks ((t, k) :: l) = t :: tks l := rfl
theorem tks_app (l m : List Itm) : tks (l ++ m) = tks l ++ tks m := by unfold tks; rw [List.map_append]
def Cl (r : List Tok) : Prop := r = [] ∨ ∃ q, r = [41] :: q
def Reads (e : Ex) : Prop := ∀ (n k : Nat) (r : List Tok), Cl r → 2 * (e.itm k).length + 2 ≤ n → wholeF n false (tks (e.itm k) ++ r) = some (e, r)
def ReadsP (e : Ex) : Prop := ∀ (n k : Nat) (r : List Tok), 2 * (e.pit k).length + 1 ≤ n → pieceF n false (tks (e.pit k) ++ r) = some (e, r)
theorem Cl.tail {r : List Tok} (h : Cl r) (n : Nat) (a : Ex) : tailF n false a r = some (a, r) := by
 rcases h with rfl | ⟨q, rfl⟩
 ·rw [tailF_nil, if_neg (by simp)]
 ·exact tailF_none (by decide)
theorem takeT_hit (t : Tok) (r : List Tok) : takeT t (t :: r) = some r := by unfold takeT; exact if_pos rfl
theorem reads_leaf {t : Tok} {n : Nat} {r : List Tok} {e : Ex} (hp : ∀ n r, pieceF (n + 1) false (t :: r) = some (e, r)) (h1 : t ≠ tNot) (h2 : t ≠ tIf) (hr : Cl r) (hn : 2 ≤ n) : wholeF n false (t :: r) = some (e, r) := by
 obtain ⟨m, rfl⟩ : ∃ m, n = m + 1 + 1 := ⟨n - 2, by omega⟩
 rw [whole_two _ _ _ _ h1 h2, hp, Option.bind_some]
 exact hr.tail _ _
theorem reads_pit {e : Ex} (hw : Reads e) (hl : e.l.isEmpty = true → ReadsP e) : ReadsP e := by
 cases he : e.l.isEmpty with
 | true => exact hl he
 | false =>
  intro n k r hn
  have e1 : e.pit k = ([40], 0) :: (e.itm 0 ++ [([41], k)]) := by unfold Ex.pit pt; rw [he]; rfl
  rw [e1] at hn ⊢
  simp only [List.length_cons, List.length_append, List.length_nil] at hn
  obtain ⟨m, rfl⟩ : ∃ m, n = m + 1 := ⟨n - 1, by omega⟩
  rw [tks_cons, tks_app, List.cons_append, List.append_assoc, pieceF, if_pos rfl]
  have hm := hw m 0 ([41] :: r) (.inr ⟨r, rfl⟩) (by omega)
  show (wholeF m false (tks (e.itm 0) ++ ([41] :: r))).bind _ = _
  rw [hm, Option.bind_some]
  show (takeT [41] ([41] :: r)).bind _ = _
  rw [takeT_hit]; rfl
theorem con_piece {x : Vl} (h : vlRight x = true) (n : Nat) (r : List Tok) : pieceF (n + 1) false (tx 1 0 x [] :: r) = some (.mk 1 0 x.ty x.n x.b x.s [], r) := by
 obtain ⟨_, h2, h3, h4, _, _⟩ := con_leaf h
 rw [pieceF_rest n false _ r h3]
 unfold pieceR
 rw [h4]
 simp only
 rw [h2]; rfl
theorem var_piece {v : Int} (h : 1 ≤ v ∧ v ≤ 9) (n : Nat) (r : List Tok) : pieceF (n + 1) false (tx 2 v ⟨0, 0, false, []⟩ [] :: r) = some (.mk 2 v 0 0 false [] [], r) := by
 obtain ⟨k, rfl, _, h3, h4, _, _⟩ := var_leaf h
 rw [pieceF_rest n false _ r h3]
 unfold pieceR
 rw [h4]
 rfl
theorem reads {e : Ex} {t : Int} (h : Rt e t) : Reads e ∧ ReadsP e := by
 have key : ∀ (n : Nat) (e : Ex) (t : Int), e.size ≤ n → Rt e t → Reads e ∧ ReadsP e := by
  intro n
  induction n with
  | zero => intro e t hs; have := e.size_pos; omega
  | succ n ih =>
   intro e t hs h
   rcases h.two with ⟨x, rfl, hx⟩ | ⟨v, rfl, hv⟩ | ⟨a, rfl, ha⟩ | ⟨op, a, b, u, ho, rfl, ha, hb⟩ | ⟨a, b, c, rfl, ha, hb, hc⟩
   ·obtain ⟨_, _, _, _, h5, h6⟩ := con_leaf hx
    refine ⟨fun m k r hr hm => ?_, fun m k r hm => ?_⟩
    ·rw [itm_con] at hm ⊢
     exact reads_leaf (con_piece hx) h5 h6 hr (by simp at hm; omega)
    ·obtain ⟨j, rfl⟩ : ∃ j, m = j + 1 := ⟨m - 1, by omega⟩
     exact con_piece hx j r
   ·obtain ⟨_, _, _, _, _, h5, h6⟩ := var_leaf hv
    refine ⟨fun m k r hr hm => ?_, fun m k r hm => ?_⟩
    ·rw [itm_var] at hm ⊢
     exact reads_leaf (var_piece hv) h5 h6 hr (by simp at hm; omega)
    ·obtain ⟨j, rfl⟩ : ∃ j, m = j + 1 := ⟨m - 1, by omega⟩
     exact var_piece hv j r
   ·rw [Ex.size_not] at hs
    have ia := (ih a 2 (by omega) ha).2
    have hw : Reads (Ex.mk 3 0 0 0 false [] [a]) := fun m k r hr hm => by
     rw [itm_not] at hm ⊢
     simp only [List.length_cons] at hm
     obtain ⟨j, rfl⟩ : ∃ j, m = j + 1 := ⟨m - 1, by omega⟩
     rw [tks_cons, List.cons_append]
     show wholeF (j + 1) false ([110, 111, 116] :: _) = _
     rw [whole_not, ia j k r (by omega)]; rfl
    exact ⟨hw, reads_pit hw (by intro h; cases h)⟩
   ·rw [Ex.size_two] at hs
    have ia := (ih a u (by omega) ha).2
    have ib := (ih b u (by omega) hb).2
    have hw : Reads (Ex.mk op 0 0 0 false [] [a, b]) := fun m k r hr hm => by
     rw [itm_two ho] at hm ⊢
     simp only [List.length_cons, List.length_append] at hm
     obtain ⟨j, rfl⟩ : ∃ j, m = j + 1 := ⟨m - 1, by omega⟩
     have hx := (wd_tok (op - 4).toNat (by omega)).2
     rw [tks_app, tks_cons, List.append_assoc, List.cons_append]
     have h1 := ia j 1 (wdL.getD (op - 4).toNat [] :: (tks (b.pit k) ++ r)) (by omega)
     have hfst : ∃ t q, tks (a.pit 1) = t :: q ∧ t ≠ [110, 111, 116] ∧ t ≠ [105, 102] := by
      rcases ha.two with ⟨x, rfl, hx⟩ | ⟨v, rfl, hv⟩ | ⟨a', rfl, _⟩ | ⟨op', a', b', u', _, rfl, _⟩ | ⟨a', b', c', rfl, _⟩
      ·obtain ⟨_, _, _, _, h5, h6⟩ := con_leaf hx
       exact ⟨_, _, rfl, h5, h6⟩
      ·obtain ⟨_, _, _, _, _, h5, h6⟩ := var_leaf hv
       exact ⟨_, _, rfl, h5, h6⟩
      ·exact ⟨[40], _, rfl, by decide, by decide⟩
      ·exact ⟨[40], _, rfl, by decide, by decide⟩
      ·exact ⟨[40], _, rfl, by decide, by decide⟩
     obtain ⟨t0, q0, e0, hn1, hn2⟩ := hfst
     rw [e0] at h1 ⊢
     rw [List.cons_append] at h1 ⊢
     rw [whole_two _ _ _ _ hn1 hn2, h1, Option.bind_some]
     show tailF j false a (wdL.getD (op - 4).toNat [] :: (tks (b.pit k) ++ r)) = _
     rw [tailF_some hx, ib j k r (by omega), Option.bind_some]
     simp only [exOp, Option.some.injEq, Prod.mk.injEq, Ex.mk.injEq, and_true, true_and]
     omega
    exact ⟨hw, reads_pit hw (by intro h; cases h)⟩
   ·rw [Ex.size_ite] at hs
    have ia := (ih a 2 (by omega) ha).2
    have ib := (ih b t (by omega) hb).2
    have ic := (ih c t (by omega) hc).2
    have hw : Reads (Ex.mk 13 0 0 0 false [] [a, b, c]) := fun m k r hr hm => by
     rw [itm_ite] at hm ⊢
     simp only [List.length_cons, List.length_append] at hm
     obtain ⟨j, rfl⟩ : ∃ j, m = j + 1 := ⟨m - 1, by omega⟩
     rw [tks_cons, tks_app, tks_cons, tks_app, tks_cons, List.cons_append, List.append_assoc, List.cons_append, List.append_assoc, List.cons_append]
     show wholeF (j + 1) false ([105, 102] :: _) = _
     rw [whole_if, ia j 1 _ (by omega), Option.bind_some]
     show (takeT tThen (tThen :: _)).bind _ = _
     rw [takeT_hit, Option.bind_some, ib j 1 _ (by omega), Option.bind_some]
     show (takeT tElse (tElse :: _)).bind _ = _
     rw [takeT_hit, Option.bind_some, ic j k r (by omega)]; rfl
    exact ⟨hw, reads_pit hw (by intro h; cases h)⟩
 exact key e.size e t (Nat.le_refl _) h
theorem read_spell {e : Ex} {l : List Itm} (hs : Sep l) (h : wholeF (2 * l.length + 2) false (tks l) = some (e, [])) : readT (spell l) = some e := by
 unfold readT
 rw [lt_spell l hs, if_neg (by simp)]
 simp only
 have : (l.map (·.1)).length = l.length := by simp
 rw [this]
 show (match wholeF (2 * l.length + 2) false (tks l) with | some (e, []) => some e | _ => none) = _
 rw [h]
theorem read_text {e : Ex} {t : Int} (h : Rt e t) : readT e.text = some e := by
 have h1 := spells h 0 []
 simp only [List.append_nil, spell, List.replicate_zero, List.nil_append] at h1
 rw [← h1]
 have h2 := (reads h).1 (2 * (e.itm 0).length + 2) 0 [] (.inl rfl) (Nat.le_refl _)
 rw [List.append_nil] at h2
 refine read_spell ?_ h2
 have h3 := sepx h 0 [] (.inr (.inl rfl)) trivial
 rwa [List.append_nil] at h3
theorem parse_ok {s : List UInt8} {e : Ex} {t : Int} (h : Rt e t) (hz : e.size ≤ 60) (hs : s.length ≤ 4096) (hr : readT s = some e) : parseE s = (e, 0) := by
 have hc : chkE e = 0 := by
  unfold chkE
  rw [if_neg (by omega), if_neg ?_]
  have := h.typed
  have := h.pos
  omega
 rw [parse_eq hs hr]
 unfold parseR
 simp only
 rw [if_pos hc]
def nq (c : UInt8) (q : Bool) : Bool := if c = 34 then !q else q
theorem text_len26 {e : Ex} {t : Int} (h : Rt e t) : e.text.length ≤ 26 * e.size := by
 have key : ∀ (n : Nat) (e : Ex) (t : Int), e.size ≤ n → Rt e t → e.text.length ≤ 26 * e.size := by
  intro n
  induction n with
  | zero => intro e t hs; have := e.size_pos; omega
  | succ n ih =>
   intro e t hs h
   rcases h.two with ⟨x, rfl, hx⟩ | ⟨v, rfl, hv⟩ | ⟨a, rfl, ha⟩ | ⟨op, a, b, u, ho, rfl, ha, hb⟩ | ⟨a, b, c, rfl, ha, hb, hc⟩
   ·have := text_con hx
    rw [Ex.text, Ex.size]
    exact Nat.le_trans this (by omega)
   ·rw [Ex.text, Ex.size]
    have := nm_len (v - 1).toNat
    simp only [tx, Int.reduceEq, if_true, if_false]
    omega
   ·rw [Ex.size_not] at hs ⊢
    have := ih a 2 (by omega) ha
    have := piece_len a
    rw [Ex.text]
    simp [tx, Ex.pieces_map, tNot]
    omega
   ·rw [Ex.size_two] at hs ⊢
    have := ih a u (by omega) ha
    have := ih b u (by omega) hb
    have := piece_len a
    have := piece_len b
    have := wd_len (op - 4).toNat
    rw [text_two ho]
    simp only [List.length_append, List.length_cons]
    omega
   ·rw [Ex.size_ite] at hs ⊢
    have := ih a 2 (by omega) ha
    have := ih b t (by omega) hb
    have := ih c t (by omega) hc
    have := piece_len a
    have := piece_len b
    have := piece_len c
    rw [Ex.text]
    simp [tx, Ex.pieces_map, tIf, tThen, tElse]
    omega
 exact key e.size e t (Nat.le_refl _) h
end Go.Proofs.YtmiencglfhpmeaaGreatDoor
namespace Go.Proofs.YtmiencglfhpmeaaGreatDoor
open Go.RowKit Hach
end Go.Proofs.YtmiencglfhpmeaaGreatDoor
