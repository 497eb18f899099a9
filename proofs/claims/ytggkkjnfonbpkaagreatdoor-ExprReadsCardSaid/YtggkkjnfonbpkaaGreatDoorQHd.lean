/- The contract of the reference's tokens. -/
import Derived.Test.YtggkkjnfonbpkaaGreatDoorQXo

set_option linter.unusedSimpArgs false
set_option linter.unusedVariables false
namespace Go.Proofs.YtggkkjnfonbpkaaGreatDoor
open Go.RowKit Hach

def strLen : Value → Nat
  | .string b => b.size
  | _ => 0
theorem ext1 (c : UInt8) (t : List UInt8) (m : Nat) (hm : m = t.length + 1) : (sv (c :: t)).extract 1 m = sv t := by
  unfold sv
  rw [ba_sub, List.drop_succ_cons, List.drop_zero, List.take_of_length_le (by omega)]
theorem extF (s : List UInt8) (n : Nat) : (sv s).extract 0 n = sv (s.take n) := by
  unfold sv; rw [ba_sub]; rfl
theorem extB (s : List UInt8) (n m : Nat) (hm : m = s.length) : (sv s).extract n m = sv (s.drop n) := by
  unfold sv
  rw [ba_sub, List.take_of_length_le (by rw [List.length_drop]; omega)]
def TokensR (p : List Tok × Bool) (w : World) (e : Ending) (w' : World) : Prop :=
    (p.2 = true → e = .returned (.tuple #[.slice none 0 0, .bool false]) ∧ Ext w w') ∧
    (p.2 = false → ∃ v, e = .returned (.tuple #[v, .bool true]) ∧ OwnC 9 w' w.heap.size v (p.1.map txv) ∧ Ext w w')
theorem tokens_any (s : List UInt8) (w : World) (hl : s.length < 4294967296) : Calls Tryz.prog 46 #[.string ⟨s.toArray⟩] w (TokensR (lt s) w) := by
  have HL := Lib.hid hl
  have hlt0 := (lt_toks s.length s (Nat.le_refl _)).2
  have HLT := Lib.hid (show (lt s).1.length < 4294967296 by omega)
  obtain ⟨p, hp⟩ : ∃ p, lt s = p := ⟨_, rfl⟩
  have HP := Lib.hid hp
  rw [hp] at HLT ⊢
  clear hlt0 hp
  obtain ⟨S, hS⟩ : ∃ S : ByteArray, (⟨s.toArray⟩ : ByteArray) = S := ⟨_, rfl⟩
  have HS := Lib.hid hS
  rw [hS]
  clear hS hl
  go_enter Tryz.func46, Tryz.ntmps46
  go_wp2_with fail
  go_loopw [0, 4, 5] (fun rv lv _ wr => ∃ (r : List UInt8) (pre : List Tok), rv = .string (sv r) ∧ r.length ≤ s.length ∧ p.1 = pre ++ (lt r).1 ∧ p.2 = (lt r).2 ∧ OwnC 9 wr w.heap.size lv (pre.map txv) ∧ Ext w wr) (fun rv _ _ _ => strLen rv)
  case atStart => exact ⟨s, [], by rw [← HS.out]; rfl, Nat.le_refl _, by rw [HP.out]; rfl, by rw [HP.out], OwnC.nil _ _ _, Ext.refl _⟩
  case round =>
    obtain ⟨r, pre, rfl, hr, hp1, hp2, hO, hE⟩ := hrel
    have hrl : r.length < 4294967296 := Nat.lt_of_le_of_lt hr HL.out
    have HR := Lib.hid hr
    have HP1 := Lib.hid hp1
    have HP2 := Lib.hid hp2
    cases r with
    | nil =>
      obtain ⟨R, hR⟩ : ∃ R : ByteArray, sv [] = R := ⟨_, rfl⟩
      have hRs : R.size = 0 := by rw [← hR]; rfl
      rw [hR]
      clear hR hr hp1 hp2 hrl HR
      go_wp2_with fail
      go_ret2
      refine ⟨fun h => ?_, fun _ => ⟨_, rfl, ?_, hE⟩⟩
      · rw [HP2.out, lt_nil] at h; cases h
      · rw [HP1.out, lt_nil, List.append_nil]; exact hO
    | cons c t =>
      obtain ⟨m, hm⟩ : ∃ m, t.length + 1 = m := ⟨_, rfl⟩
      have h0 := ba_get (c :: t) 0
      simp only [List.getD_cons_zero] at h0
      change ∀ h : 0 < (sv (c :: t)).size, (sv (c :: t))[0] = c at h0
      have hsz : (sv (c :: t)).size = m := by rw [sv_size, List.length_cons, hm]
      have e1 := Lib.hid (ext1 c t m hm.symm)
      have TK := Lib.hid (token_any (c :: t) · (by simp) hrl)
      have HRL := Lib.hid hrl
      change Hid (∀ W, Calls Tryz.prog 67 #[.string (sv (c :: t))] W _) at TK
      obtain ⟨R, hR⟩ : ∃ R : ByteArray, sv (c :: t) = R := ⟨_, rfl⟩
      have HRR := Lib.hid hR
      rw [hR] at h0 hsz e1 TK ⊢
      have hm1 : 1 ≤ m := by omega
      have hml : m < 4294967296 := by rw [List.length_cons] at hrl; omega
      have HM := Lib.hid hm
      clear hR hr hp1 hp2 hrl hm
      by_cases hc : c.toNat = 32
      · have t1 : ((c.toNat : Int) == 32) = true := by rw [hc]; rfl
        have HB := Lib.hid (lt_blank c t hc)
        have hsz2 : strLen (.string (R.extract 1 m)) < strLen (.string R) := by
          rw [e1.out]; show (sv t).size < R.size
          rw [sv_size, hsz]; have := HM.out; omega
        clear hc
        go_wp2_with fail
        go_roundw
        case rel => exact ⟨t, pre, by rw [e1.out], by have := HR.out; rw [List.length_cons] at this; omega, by rw [HP1.out, HB.out], by rw [HP2.out, HB.out], hO, hE⟩
        case measure => exact hsz2
      · have t1 : ((c.toNat : Int) == 32) = false := by rw [beq_eq_false_iff_ne]; omega
        have HC := Lib.hid (lt_cons c t)
        have HC2 := Lib.hid hc
        have HN := Lib.hid (tokLen_le (c :: t))
        have HT := Lib.hid (fun h : tokLen (c :: t) ≠ 0 => (tok_is (c :: t) h))
        have HCX := Lib.hid (show lt (c :: t) = if tokLen (c :: t) = 0 then ([], true) else ((c :: t).take (tokLen (c :: t)) :: (lt ((c :: t).drop (tokLen (c :: t)))).1, (lt ((c :: t).drop (tokLen (c :: t)))).2) by rw [HC.out, if_neg HC2.out])
        clear HC HC2
        generalize tokLen (c :: t) = n at TK HN HT HCX
        clear hc
        have hnm : n ≤ m := by have h1 := HN.out; have h2 := HM.out; rw [List.length_cons] at h1; omega
        by_cases hn0 : n = 0
        · subst hn0
          have HE := Lib.hid (show p.2 = true by rw [HP2.out, HCX.out, if_pos rfl])
          go_wp2_with fail
          refine (TK.out _).mono ?_
          rintro e w2 ⟨rfl, rfl⟩
          go_wp2_with fail
          go_ret2
          exact ⟨fun _ => ⟨rfl, hE⟩, fun h => by rw [HE.out] at h; cases h⟩
        · have tn : ((n : Int) == 0) = false := by rw [beq_eq_false_iff_ne]; omega
          have HCN := Lib.hid (show lt (c :: t) = ((c :: t).take n :: (lt ((c :: t).drop n)).1, (lt ((c :: t).drop n)).2) by rw [HCX.out, if_neg hn0])
          have HXF := Lib.hid (show R.extract 0 n = sv ((c :: t).take n) by rw [← HRR.out]; exact extF _ n)
          have HXB := Lib.hid (show R.extract n m = sv ((c :: t).drop n) by rw [← HRR.out]; exact extB _ n m (by have := HM.out; rw [List.length_cons]; omega))
          have hsz2 : strLen (.string (R.extract n m)) < strLen (.string R) := by
            rw [HXB.out]; show (sv ((c :: t).drop n)).size < R.size
            rw [sv_size, hsz, List.length_drop, List.length_cons]; have := HM.out; omega
          obtain ⟨us, hus⟩ : ∃ us, pre.map txv = us := ⟨_, rfl⟩
          have HUS := Lib.hid hus
          rw [hus] at hO
          obtain ⟨A0, c0, e, hRd⟩ := hO.form
          subst e
          have hus4 : us.length < 4294967296 := by
            rw [← hus, List.length_map]
            have h1 := HLT.out
            have h2 := congrArg List.length HP1.out
            rw [List.length_append] at h2; omega
          have hEa : Ext wr (wr.alloc (.cells #[.string (R.extract 0 n)] 9)) := Ext.alloc _ _
          have hOa := hO.ext hEa
          have hEb := hE.trans hEa
          have hba : w.heap.size ≤ (wr.alloc (.cells #[.string (R.extract 0 n)] 9)).heap.size := hEb.sz
          have HCG := Lib.hid (show (wr.alloc (.cells #[.string (R.extract 0 n)] 9)).cell? ⟨wr.heap.size, 0, none⟩ = some (.string (R.extract 0 n)) by rw [World.cell?_alloc_new]; rfl)
          have hne0 : decide ((0 : Int) ≤ (n : Int)) = true := by simp
          clear hRd hO hE hEa hn0 hus
          go_wp2_with fail
          refine (TK.out _).mono ?_
          rintro e w2 ⟨rfl, rfl⟩
          go_wp2_with (at_builtin; refine app_C ctyS rfl 18 22 rfl w.heap.size (.slice A0 us.length c0) us rfl hOa w2.heap.size (.string (R.extract 0 n)) rfl HCG.out rfl hus4 hba ?_; intro v1 wb hO2 hg2)
          go_roundw
          case rel =>
            refine ⟨(c :: t).drop n, pre ++ [(c :: t).take n], by rw [HXB.out], by have := HR.out; rw [List.length_drop]; omega, by rw [HP1.out, HCN.out, List.append_assoc]; rfl, by rw [HP2.out, HCN.out], ?_, Below.trans hEb (below_row' hg2 hba fun g e => (hOa.lt g e).1)⟩
            rw [List.map_append, HUS.out]
            rw [HXF.out] at hO2
            exact hO2
          case measure => exact hsz2
end Go.Proofs.YtggkkjnfonbpkaaGreatDoor
