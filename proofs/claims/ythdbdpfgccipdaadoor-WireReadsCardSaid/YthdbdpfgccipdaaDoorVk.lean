/- The walk of the statement WireCanonical: at every input the call returns true. -/
import Derived.Test.YthdbdpfgccipdaaDoorVh
import Derived.Test.YthdbdpfgccipdaaDoorVi
namespace Go.Proofs.YthdbdpfgccipdaaDoor
open Go.RowKit Hach Num

theorem rdl_len {α : Type} {f : List UInt8 → Option (α × List UInt8)} {g : α → List UInt8} {V : α → Prop} (T : Num.Twin f g V) {l : List α} {t r : List UInt8} (h : rdList f t = some (l, r)) : (l.map g).flatten.length ≤ t.length ∧ l.length ≤ t.length := by
  obtain ⟨_, e⟩ := (twinList T).sole t l r h
  have h1 : t.length = (l.map g).flatten.length + r.length + 2 := by rw [e]; unfold wrList; simp only [List.length_append, List.length_cons, List.length_nil]; omega
  have h2 : ∀ l : List α, l.length ≤ (l.map g).flatten.length := by
    intro l
    induction l with
    | nil => simp
    | cons x l ih =>
      have := List.length_pos_iff.2 (T.ne x)
      simp only [List.map_cons, List.flatten_cons, List.length_append, List.length_cons]; omega
  have := h2 l
  omega

theorem texts_short {v : List (List UInt8)} {n : Nat} (h : (v.map wrText).flatten.length ≤ n) (hn : n ≤ 200) : ∀ x ∈ v, ShortT x := by
  intro x hx
  have h1 : ∀ v : List (List UInt8), x ∈ v → (wrText x).length ≤ (v.map wrText).flatten.length := by
    intro v
    induction v with
    | nil => intro h; cases h
    | cons y v ih =>
      intro h
      simp only [List.map_cons, List.flatten_cons, List.length_append]
      rcases List.mem_cons.1 h with rfl | h
      · omega
      · have := ih h; omega
  have h1 := h1 v hx
  have h2 : x.length ≤ (wrText x).length := by unfold wrText; simp only [List.length_append, List.length_cons]; omega
  unfold ShortT; omega

set_option maxRecDepth 100000 in
set_option maxHeartbeats 2000000 in
theorem WireCanonical_any (s : ByteArray) (w : World) (hT : Tabs w) (hs : s.size ≤ maxLen) :
    Calls Tryd.prog 6 #[.string s] w fun e w' => e = .returned (.bool true) ∧ Ext w w' := by
  have hs' : s.size < 9223372036854775808 := by simp only [maxLen] at hs; omega
  clear hs
  obtain ⟨sv, hcut, hsv⟩ : ∃ sv : ByteArray, s.extract 0 (min (s.size : Int) 200).toNat = sv ∧ sv.size ≤ 200 := ⟨_, rfl, by rw [ByteArray.size_extract]; omega⟩
  obtain ⟨t, ht⟩ : ∃ t, sv.data.toList = t := ⟨_, rfl⟩
  have hst : sv = ⟨t.toArray⟩ := by rw [← ht]
  have htl : sv.size = t.length := by rw [← ht, Array.length_toList]; rfl
  have HST := Lib.hid hst
  have HT := Lib.hid ht
  have HTL := Lib.hid htl
  have ht2 : t.length ≤ 200 := by omega
  clear hst ht htl
  go_enter Tryd.func6, Tryd.ntmps6
  go_wp2_with fail
  refine (sanity_any w hT).mono ?_
  rintro e w1 ⟨rfl, hE1⟩
  go_wp2_with fail
  go_loopw [4] (fun i wr => ∃ k : Nat, k ≤ 4 ∧ i = .int .i64 k ∧ Ext w wr) (fun i _ => 4 - (intOf i).toNat)
  case atStart => exact ⟨0, Nat.zero_le _, rfl, hE1⟩
  case round =>
    obtain ⟨k, hk, rfl, hE⟩ := hrel
    have hTr := hT.ext hE
    have h4 := hTr.sz
    have hnew := new_any sv wr
    rw [HT.out] at hnew
    match k, hk with
    | 0, _ =>
      go_wp2_with fail
      refine hnew.mono ?_
      rintro e w2 ⟨rfl, hR2, hE2⟩
      have hT2 := hTr.ext hE2
      go_wp2_with fail
      have hc := int_any wr.heap.size (some t) w2 hR2 h4 hT2 (by simp only [Option.getD_some]; omega)
      simp only [Option.bind_some] at hc
      cases hx : rdInt t with
      | none =>
        rw [hx] at hc
        refine hc.mono ?_
        rintro e w3 ⟨⟨rfl, hR3⟩, hg3⟩
        have hE3 : Ext wr w3 := ext_own hE2 hg3 (Nat.le_refl _)
        have hT3 := hTr.ext hE3
        skip
        go_wp2_with fail
        refine (wInt_any 0 ⟨by decide, by decide⟩ w3 hT3).mono ?_
        rintro e w4 ⟨rfl, hE4⟩
        have hR4 := hR3.ext hE4
        have hR4 : Rd w4 wr.heap.size none := hR4
        go_wp2_with fail
        refine (bad_any _ none w4 hR4).mono ?_
        rintro e w5 ⟨rfl, rfl⟩
        go_wp2_with fail
        refine (bad_any _ none w5 hR4).mono ?_
        rintro e w6 ⟨rfl, rfl⟩
        go_wp2_with fail
        refine (left_any _ none w6 hR4).mono ?_
        rintro e w7 ⟨rfl, rfl⟩
        go_wp2_with fail
        go_roundw
        case rel => exact ⟨0 + 1, by omega, rfl, (hE.trans hE3).trans hE4⟩
        case measure => simp [intOf]
      | some y =>
        obtain ⟨v, r⟩ := y
        obtain ⟨hv, hsp⟩ := (twinInt).sole t v r hx
        skip
        rw [hx] at hc
        have HX := Lib.hid hx
        clear hx
        refine hc.mono ?_
        rintro e w3 ⟨⟨rfl, hR3⟩, hg3⟩
        have hE3 : Ext wr w3 := ext_own hE2 hg3 (Nat.le_refl _)
        have hT3 := hTr.ext hE3
        skip
        go_wp2_with fail
        refine (wInt_any v hv w3 hT3).mono ?_
        rintro e w4 ⟨rfl, hE4⟩
        have hR4 := hR3.ext hE4
        have hR4 : Rd w4 wr.heap.size (some r) := hR4
        have hpre : sv.extract 0 (wrInt v).length = ⟨(wrInt v).toArray⟩ := by rw [HST.out, ba_take, hsp, List.take_left]
        have hz1 := toArr_size (wrInt v)
        obtain ⟨av, hav⟩ : ∃ av : ByteArray, (⟨(wrInt v).toArray⟩ : ByteArray) = av := ⟨_, rfl⟩
        rw [hav] at hpre hz1
        rw [hav]
        clear hav
        obtain ⟨a, ha⟩ : ∃ a, (wrInt v).length = a := ⟨_, rfl⟩
        have hz2 : sv.size = a + r.length := by rw [HTL.out, hsp, List.length_append, ha]
        rw [ha] at hpre hz1
        have ha200 : a + r.length ≤ 200 := by omega
        clear hsp ha hv
        go_wp2_with fail
        refine (bad_any _ (some r) w4 hR4).mono ?_
        rintro e w5 ⟨rfl, rfl⟩
        go_wp2_with fail
        refine (left_any _ (some r) w5 hR4).mono ?_
        rintro e w6 ⟨rfl, rfl⟩
        have hlr : ((some r).getD []).length = r.length := rfl
        rw [hlr]
        have tcmp : ((a : Int) != (a : Int) + (r.length : Nat) - (r.length : Nat)) = false := by rw [bne_eq_false_iff_eq]; omega
        go_wp2_with fail
        refine (bad_any _ (some r) w6 hR4).mono ?_
        rintro e w7 ⟨rfl, rfl⟩
        go_wp2_with fail
        go_roundw
        case rel => exact ⟨0 + 1, by omega, rfl, (hE.trans hE3).trans hE4⟩
        case measure => simp [intOf]
    | 1, _ =>
      go_wp2_with fail
      refine hnew.mono ?_
      rintro e w2 ⟨rfl, hR2, hE2⟩
      have hT2 := hTr.ext hE2
      go_wp2_with fail
      have hc := text_any wr.heap.size (some t) w2 hR2 h4 hT2 (by simp only [Option.getD_some]; omega)
      simp only [Option.bind_some] at hc
      cases hx : rdText t with
      | none =>
        rw [hx] at hc
        refine hc.mono ?_
        rintro e w3 ⟨⟨rfl, hR3⟩, hg3⟩
        have hE3 : Ext wr w3 := ext_own hE2 hg3 (Nat.le_refl _)
        have hT3 := hTr.ext hE3
        skip
        go_wp2_with fail
        refine (wText_any [] (by decide) w3 hT3).mono ?_
        rintro e w4 ⟨rfl, hE4⟩
        have hR4 := hR3.ext hE4
        have hR4 : Rd w4 wr.heap.size none := hR4
        go_wp2_with fail
        refine (bad_any _ none w4 hR4).mono ?_
        rintro e w5 ⟨rfl, rfl⟩
        go_wp2_with fail
        refine (bad_any _ none w5 hR4).mono ?_
        rintro e w6 ⟨rfl, rfl⟩
        go_wp2_with fail
        refine (left_any _ none w6 hR4).mono ?_
        rintro e w7 ⟨rfl, rfl⟩
        go_wp2_with fail
        go_roundw
        case rel => exact ⟨1 + 1, by omega, rfl, (hE.trans hE3).trans hE4⟩
        case measure => simp [intOf]
      | some y =>
        obtain ⟨v, r⟩ := y
        obtain ⟨hv, hsp⟩ := (twinText).sole t v r hx
        have hvl : v.length ≤ 200 := by have := congrArg List.length hsp; unfold wrText at this; simp at this; omega
        rw [hx] at hc
        have HX := Lib.hid hx
        clear hx
        refine hc.mono ?_
        rintro e w3 ⟨⟨rfl, hR3⟩, hg3⟩
        have hE3 : Ext wr w3 := ext_own hE2 hg3 (Nat.le_refl _)
        have hT3 := hTr.ext hE3
        skip
        go_wp2_with fail
        refine (wText_any v (by omega) w3 hT3).mono ?_
        rintro e w4 ⟨rfl, hE4⟩
        have hR4 := hR3.ext hE4
        have hR4 : Rd w4 wr.heap.size (some r) := hR4
        have hpre : sv.extract 0 (wrText v).length = ⟨(wrText v).toArray⟩ := by rw [HST.out, ba_take, hsp, List.take_left]
        have hz1 := toArr_size (wrText v)
        obtain ⟨av, hav⟩ : ∃ av : ByteArray, (⟨(wrText v).toArray⟩ : ByteArray) = av := ⟨_, rfl⟩
        rw [hav] at hpre hz1
        rw [hav]
        clear hav
        obtain ⟨a, ha⟩ : ∃ a, (wrText v).length = a := ⟨_, rfl⟩
        have hz2 : sv.size = a + r.length := by rw [HTL.out, hsp, List.length_append, ha]
        rw [ha] at hpre hz1
        have ha200 : a + r.length ≤ 200 := by omega
        clear hsp ha hv
        go_wp2_with fail
        refine (bad_any _ (some r) w4 hR4).mono ?_
        rintro e w5 ⟨rfl, rfl⟩
        go_wp2_with fail
        refine (left_any _ (some r) w5 hR4).mono ?_
        rintro e w6 ⟨rfl, rfl⟩
        have hlr : ((some r).getD []).length = r.length := rfl
        rw [hlr]
        have tcmp : ((a : Int) != (a : Int) + (r.length : Nat) - (r.length : Nat)) = false := by rw [bne_eq_false_iff_eq]; omega
        go_wp2_with fail
        refine (bad_any _ (some r) w6 hR4).mono ?_
        rintro e w7 ⟨rfl, rfl⟩
        go_wp2_with fail
        go_roundw
        case rel => exact ⟨1 + 1, by omega, rfl, (hE.trans hE3).trans hE4⟩
        case measure => simp [intOf]
    | 2, _ =>
      go_wp2_with fail
      refine hnew.mono ?_
      rintro e w2 ⟨rfl, hR2, hE2⟩
      have hT2 := hTr.ext hE2
      go_wp2_with fail
      have hc := list_I wr.heap.size (some t) w2 hR2 h4 hT2 (by simp only [Option.getD_some]; omega)
      simp only [Option.bind_some] at hc
      cases hx : rdList rdInt t with
      | none =>
        rw [hx] at hc
        refine hc.mono ?_
        rintro e w3 ⟨⟨⟨u, rfl, hO⟩, hR3⟩, hg3⟩
        have hE3 : Ext wr w3 := ext_own hE2 hg3 (Nat.le_refl _)
        have hT3 := hTr.ext hE3
        obtain ⟨A, c, rfl, hrow⟩ := hO.form
        go_wp2_with fail
        refine (wlist_I A _ c [] w3 hrow (by decide) (by simp) (by decide) hT3).mono ?_
        rintro e w4 ⟨rfl, hE4⟩
        have hR4 := hR3.ext hE4
        have hR4 : Rd w4 wr.heap.size none := hR4
        go_wp2_with fail
        refine (bad_any _ none w4 hR4).mono ?_
        rintro e w5 ⟨rfl, rfl⟩
        go_wp2_with fail
        refine (bad_any _ none w5 hR4).mono ?_
        rintro e w6 ⟨rfl, rfl⟩
        go_wp2_with fail
        refine (left_any _ none w6 hR4).mono ?_
        rintro e w7 ⟨rfl, rfl⟩
        go_wp2_with fail
        go_roundw
        case rel => exact ⟨2 + 1, by omega, rfl, (hE.trans hE3).trans hE4⟩
        case measure => simp [intOf]
      | some y =>
        obtain ⟨v, r⟩ := y
        obtain ⟨hv, hsp⟩ := (twinList twinInt).sole t v r hx
        obtain ⟨hfl, hll⟩ := rdl_len twinInt hx
        rw [hx] at hc
        have HX := Lib.hid hx
        clear hx
        refine hc.mono ?_
        rintro e w3 ⟨⟨⟨u, rfl, hO⟩, hR3⟩, hg3⟩
        have hE3 : Ext wr w3 := ext_own hE2 hg3 (Nat.le_refl _)
        have hT3 := hTr.ext hE3
        obtain ⟨A, c, rfl, hrow⟩ := hO.form
        go_wp2_with fail
        refine (wlist_I A v.length c v w3 hrow (by omega) hv (by omega) hT3).mono ?_
        rintro e w4 ⟨rfl, hE4⟩
        have hR4 := hR3.ext hE4
        have hR4 : Rd w4 wr.heap.size (some r) := hR4
        have hpre : sv.extract 0 (wrList wrInt v).length = ⟨(wrList wrInt v).toArray⟩ := by rw [HST.out, ba_take, hsp, List.take_left]
        have hz1 := toArr_size (wrList wrInt v)
        obtain ⟨av, hav⟩ : ∃ av : ByteArray, (⟨(wrList wrInt v).toArray⟩ : ByteArray) = av := ⟨_, rfl⟩
        rw [hav] at hpre hz1
        rw [hav]
        clear hav
        obtain ⟨a, ha⟩ : ∃ a, (wrList wrInt v).length = a := ⟨_, rfl⟩
        have hz2 : sv.size = a + r.length := by rw [HTL.out, hsp, List.length_append, ha]
        rw [ha] at hpre hz1
        have ha200 : a + r.length ≤ 200 := by omega
        clear hsp ha hv
        go_wp2_with fail
        refine (bad_any _ (some r) w4 hR4).mono ?_
        rintro e w5 ⟨rfl, rfl⟩
        go_wp2_with fail
        refine (left_any _ (some r) w5 hR4).mono ?_
        rintro e w6 ⟨rfl, rfl⟩
        have hlr : ((some r).getD []).length = r.length := rfl
        rw [hlr]
        have tcmp : ((a : Int) != (a : Int) + (r.length : Nat) - (r.length : Nat)) = false := by rw [bne_eq_false_iff_eq]; omega
        go_wp2_with fail
        refine (bad_any _ (some r) w6 hR4).mono ?_
        rintro e w7 ⟨rfl, rfl⟩
        go_wp2_with fail
        go_roundw
        case rel => exact ⟨2 + 1, by omega, rfl, (hE.trans hE3).trans hE4⟩
        case measure => simp [intOf]
    | 3, _ =>
      go_wp2_with fail
      refine hnew.mono ?_
      rintro e w2 ⟨rfl, hR2, hE2⟩
      have hT2 := hTr.ext hE2
      go_wp2_with fail
      have hc := list_T wr.heap.size (some t) w2 hR2 h4 hT2 (by simp only [Option.getD_some]; omega)
      simp only [Option.bind_some] at hc
      cases hx : rdList rdText t with
      | none =>
        rw [hx] at hc
        refine hc.mono ?_
        rintro e w3 ⟨⟨⟨u, rfl, hO⟩, hR3⟩, hg3⟩
        have hE3 : Ext wr w3 := ext_own hE2 hg3 (Nat.le_refl _)
        have hT3 := hTr.ext hE3
        obtain ⟨A, c, rfl, hrow⟩ := hO.form
        go_wp2_with fail
        refine (wlist_T A _ c [] w3 hrow (by decide) (by simp) (by decide) hT3).mono ?_
        rintro e w4 ⟨rfl, hE4⟩
        have hR4 := hR3.ext hE4
        have hR4 : Rd w4 wr.heap.size none := hR4
        go_wp2_with fail
        refine (bad_any _ none w4 hR4).mono ?_
        rintro e w5 ⟨rfl, rfl⟩
        go_wp2_with fail
        refine (bad_any _ none w5 hR4).mono ?_
        rintro e w6 ⟨rfl, rfl⟩
        go_wp2_with fail
        refine (left_any _ none w6 hR4).mono ?_
        rintro e w7 ⟨rfl, rfl⟩
        go_wp2_with fail
        go_roundw
        case rel => exact ⟨3 + 1, by omega, rfl, (hE.trans hE3).trans hE4⟩
        case measure => simp [intOf]
      | some y =>
        obtain ⟨v, r⟩ := y
        obtain ⟨hv, hsp⟩ := (twinList twinText).sole t v r hx
        obtain ⟨hfl, hll⟩ := rdl_len twinText hx
        have hVS : ∀ x ∈ v, ShortT x := texts_short hfl ht2
        rw [hx] at hc
        have HX := Lib.hid hx
        clear hx
        refine hc.mono ?_
        rintro e w3 ⟨⟨⟨u, rfl, hO⟩, hR3⟩, hg3⟩
        have hE3 : Ext wr w3 := ext_own hE2 hg3 (Nat.le_refl _)
        have hT3 := hTr.ext hE3
        obtain ⟨A, c, rfl, hrow⟩ := hO.form
        go_wp2_with fail
        refine (wlist_T A v.length c v w3 hrow (by omega) hVS (by omega) hT3).mono ?_
        rintro e w4 ⟨rfl, hE4⟩
        have hR4 := hR3.ext hE4
        have hR4 : Rd w4 wr.heap.size (some r) := hR4
        have hpre : sv.extract 0 (wrList wrText v).length = ⟨(wrList wrText v).toArray⟩ := by rw [HST.out, ba_take, hsp, List.take_left]
        have hz1 := toArr_size (wrList wrText v)
        obtain ⟨av, hav⟩ : ∃ av : ByteArray, (⟨(wrList wrText v).toArray⟩ : ByteArray) = av := ⟨_, rfl⟩
        rw [hav] at hpre hz1
        rw [hav]
        clear hav
        obtain ⟨a, ha⟩ : ∃ a, (wrList wrText v).length = a := ⟨_, rfl⟩
        have hz2 : sv.size = a + r.length := by rw [HTL.out, hsp, List.length_append, ha]
        rw [ha] at hpre hz1
        have ha200 : a + r.length ≤ 200 := by omega
        clear hsp ha hv
        go_wp2_with fail
        refine (bad_any _ (some r) w4 hR4).mono ?_
        rintro e w5 ⟨rfl, rfl⟩
        go_wp2_with fail
        refine (left_any _ (some r) w5 hR4).mono ?_
        rintro e w6 ⟨rfl, rfl⟩
        have hlr : ((some r).getD []).length = r.length := rfl
        rw [hlr]
        have tcmp : ((a : Int) != (a : Int) + (r.length : Nat) - (r.length : Nat)) = false := by rw [bne_eq_false_iff_eq]; omega
        go_wp2_with fail
        refine (bad_any _ (some r) w6 hR4).mono ?_
        rintro e w7 ⟨rfl, rfl⟩
        go_wp2_with fail
        go_roundw
        case rel => exact ⟨3 + 1, by omega, rfl, (hE.trans hE3).trans hE4⟩
        case measure => simp [intOf]
    | 4, _ =>
      go_wp2_with fail
      go_ret
      exact ⟨rfl, hE⟩
end Go.Proofs.YthdbdpfgccipdaaDoor
