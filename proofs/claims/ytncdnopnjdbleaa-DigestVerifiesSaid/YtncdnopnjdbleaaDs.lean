/- The contract of hachurelaw03.sanity: it returns true. -/
import Derived.Test.YtncdnopnjdbleaaDz
namespace Go.Proofs.Ytncdnopnjdbleaa
open Go.RowKit Hach

theorem sn1 : dg ⟨#[]⟩ = ⟨#[0, 0, 0, 31, 0, 0, 0, 37]⟩ := by kernel_rfl
theorem sn2 : dg ⟨#[0]⟩ = ⟨#[0, 22, 213, 82, 0, 22, 249, 69]⟩ := by kernel_rfl
theorem sn3 : chn ⟨#[]⟩ ⟨#[]⟩ = dg ⟨#[1, 0, 0, 0, 0]⟩ := by kernel_rfl
theorem sn4 : mrk ⟨#[107]⟩ ⟨#[109]⟩ = dg ⟨#[2, 0, 0, 0, 1, 107, 109, 107]⟩ := by kernel_rfl
theorem sn5 : chk ⟨#[107]⟩ ⟨#[109]⟩ (mrk ⟨#[107]⟩ ⟨#[109]⟩) = true := by unfold chk; rw [beq_self_eq_true]; kernel_rfl
theorem sn6 (m x : ByteArray) : chk ⟨#[]⟩ m x = false := by unfold chk; rw [ByteArray.toList_eq]; rfl
theorem sn7 : rootS [] = dg ⟨#[5]⟩ := by kernel_rfl
theorem sn8 : rootS [⟨#[97]⟩] = dg ⟨#[3, 97]⟩ := by kernel_rfl
theorem sn9 : rootS [⟨#[97]⟩, ⟨#[98]⟩] = dg (⟨#[4]⟩ ++ dg ⟨#[3, 97]⟩ ++ dg ⟨#[3, 98]⟩) := by kernel_rfl
theorem sn10 : prvS [⟨#[97]⟩, ⟨#[98]⟩, ⟨#[99]⟩] 2 = [dg ⟨#[5]⟩, dg (⟨#[4]⟩ ++ dg ⟨#[3, 97]⟩ ++ dg ⟨#[3, 98]⟩)] := by kernel_rfl
theorem sn11 : ver (dg ⟨#[3, 97]⟩) ⟨#[97]⟩ 0 [] = true := by
  have h := ver_pos (r := dg ⟨#[3, 97]⟩) (x := ⟨#[97]⟩) (i := 0) (ps := []) rfl
  rw [show ((0 : Nat) : Int) = 0 from rfl] at h
  rw [h]
  simp only [up]
  rw [show lf ⟨#[97]⟩ = dg ⟨#[3, 97]⟩ by kernel_rfl, beq_self_eq_true]
theorem sn12 (r x : ByteArray) : ver r x 1 [] = false := ver_neg rfl
theorem Verify_any (r x : ByteArray) (i : Int) (A : Option Addr) (n c : Nat) (ps : List ByteArray) (w : World) (hS : Strs w w.heap.size A n ps) (hn : n < 4294967296) (hsm : Sm ps) (hx : x.size < 429496729) (hi : -9223372036854775808 ≤ i ∧ i ≤ 9223372036854775807) :
    Calls Try.prog 27 #[.string r, .string x, .int .i64 i, .slice A n c] w fun e w' => e = .returned (.bool (ver r x i ps)) ∧ Below w.heap.size w w' := by
  by_cases h : upOk i n = true ∧ r.size = 8
  · obtain ⟨h1, h2⟩ := h
    obtain ⟨k, rfl⟩ : ∃ k : Nat, i = k := ⟨i.toNat, by unfold upOk at h1; simp at h1; omega⟩
    exact Verify_yes r x k A n c ps w hS hsm hx h1 h2
  · have h' : upOk i n = false ∨ ¬ r.size = 8 := by
      by_cases h1 : upOk i n = true
      · exact .inr fun h2 => h ⟨h1, h2⟩
      · exact .inl (by simpa using h1)
    refine (Verify_no r x i A n c w hn hi h').mono ?_
    rintro e w' ⟨rfl, rfl⟩
    refine ⟨?_, Below.refl _ _⟩
    rcases h' with h' | h'
    · rw [ver_neg (by rw [hS.len]; exact h')]
    · rw [ver_size h']
theorem strs_new (w : World) (ss : List ByteArray) (t : TypeId) (fr : Nat × Nat) (cs : Array Value) (h : cs = (ss.map Value.string).toArray) : Strs (w.alloc (.cells cs t fr)) (w.alloc (.cells cs t fr)).heap.size (some ⟨w.heap.size, 0, none⟩) ss.length ss := by
  rw [World.size_alloc]; exact Strs.new w ss t fr cs h
theorem getD_small {N : Nat} {ss : List ByteArray} (hN : 0 < N) (h : ∀ s ∈ ss, s.size < N) : ∀ k, (ss.getD k ByteArray.empty).size < N := fun k => by
  by_cases hk : k < ss.length
  · simp only [List.getD, List.getElem?_eq_getElem hk, Option.getD_some]; exact h _ (List.getElem_mem hk)
  · simp only [List.getD, List.getElem?_eq_none (Nat.le_of_not_lt hk), Option.getD_none]; exact hN
theorem sameL_same (a : List ByteArray) : sameL a a = true := sameL_iff.2 rfl
theorem str_eq (a : ByteArray) : (a.toList == a.toList) = true := beq_self_eq_true _

set_option maxHeartbeats 1000000 in
theorem sanity_any (w : World) : Calls Try.prog 10 #[] w fun e w' => e = .returned (.bool true) ∧ Below w.heap.size w w' := by
  obtain ⟨da, hda⟩ : ∃ d, dg ⟨#[3, 97]⟩ = d := ⟨_, rfl⟩
  obtain ⟨db, hdb⟩ : ∃ d, dg ⟨#[3, 98]⟩ = d := ⟨_, rfl⟩
  obtain ⟨d5, hd5⟩ : ∃ d, dg ⟨#[5]⟩ = d := ⟨_, rfl⟩
  obtain ⟨dn, hdn⟩ : ∃ d, dg (⟨#[4]⟩ ++ da ++ db) = d := ⟨_, rfl⟩
  have za : da.size = 8 := by rw [← hda]; rfl
  have zb : db.size = 8 := by rw [← hdb]; rfl
  have f7 : rootS [] = d5 := sn7.trans hd5
  have f8 : rootS [⟨#[97]⟩] = da := sn8.trans hda
  have f9 : rootS [⟨#[97]⟩, ⟨#[98]⟩] = dn := by rw [sn9, hda, hdb, hdn]
  have f10 : prvS [⟨#[97]⟩, ⟨#[98]⟩, ⟨#[99]⟩] 2 = [d5, dn] := by rw [sn10, hd5, hda, hdb, hdn]
  have f11 : ver da ⟨#[97]⟩ 0 [] = true := by rw [← hda]; exact sn11
  have HA := Lib.hid hda
  have HB := Lib.hid hdb
  have H5 := Lib.hid hd5
  have HN := Lib.hid hdn
  have F7 := Lib.hid f7
  have F8 := Lib.hid f8
  have F9 := Lib.hid f9
  have F10 := Lib.hid f10
  have F11 := Lib.hid f11
  clear hda hdb hd5 hdn f7 f8 f9 f10 f11
  go_enter Try.func10, Try.ntmps10
  go_wp2_with fail
  refine (Of_any _ _ (by decide)).mono ?_
  rintro e w1 ⟨rfl, hb1⟩
  rw [sn1]
  go_wp2_with fail
  refine (Of_any _ _ (by decide)).mono ?_
  rintro e w2 ⟨rfl, hb2⟩
  rw [sn2]
  go_wp2_with fail
  refine (Chain_any _ _ _ (by decide) (by decide)).mono ?_
  rintro e w3 ⟨rfl, hb3⟩
  rw [sn3]
  go_wp2_with fail
  refine (Of_any _ _ (by decide)).mono ?_
  rintro e w4 ⟨rfl, hb4⟩
  go_wp2_with fail
  refine (Mark_any _ _ _ (by decide) (by decide)).mono ?_
  rintro e w5 ⟨rfl, hb5⟩
  rw [sn4]
  go_wp2_with fail
  refine (Of_any _ _ (by decide)).mono ?_
  rintro e w6 ⟨rfl, hb6⟩
  go_wp2_with fail
  refine (Mark_any _ _ _ (by decide) (by decide)).mono ?_
  rintro e w7 ⟨rfl, hb7⟩
  go_wp2_with fail
  refine (Check_any _ _ _ _ (by decide) (by decide)).mono ?_
  rintro e w8 ⟨rfl, hb8⟩
  rw [sn5]
  go_wp2_with fail
  refine (Mark_any _ _ _ (by decide) (by decide)).mono ?_
  rintro e w9 ⟨rfl, hb9⟩
  go_wp2_with fail
  refine (Check_any _ _ _ _ (by decide) (by decide)).mono ?_
  rintro e w10 ⟨rfl, hb10⟩
  rw [sn6]
  go_wp2_with fail
  refine (Of_any _ _ (by decide)).mono ?_
  rintro e w11 ⟨rfl, hb11⟩
  rw [HA.out]
  go_wp2_with fail
  refine (Of_any _ _ (by decide)).mono ?_
  rintro e w12 ⟨rfl, hb12⟩
  rw [HB.out]
  go_wp2_with fail
  refine (Of_any _ _ (by decide)).mono ?_
  rintro e w13 ⟨rfl, hb13⟩
  rw [H5.out]
  go_wp2_with fail
  refine (Root_any none 0 0 [] _ (Strs.nil _ _ _) (by decide) (fun _ => by simp)).mono ?_
  rintro e x1 ⟨rfl, kb1⟩
  rw [F7.out]
  go_wp2_with fail
  refine (Root_any (some ⟨x1.heap.size, 0, none⟩) 1 1 [⟨#[97]⟩] _ (strs_new x1 [⟨#[97]⟩] _ _ _ rfl) (by decide) (getD_small (by decide) (by decide))).mono ?_
  rintro e x2 ⟨rfl, kb2⟩
  rw [F8.out]
  have hE2 : Ext x1 x2 := (Ext.alloc x1 _).trans kb2
  go_wp2_with fail
  refine (Root_any (some ⟨x2.heap.size, 0, none⟩) 2 2 [⟨#[97]⟩, ⟨#[98]⟩] _ (strs_new x2 [⟨#[97]⟩, ⟨#[98]⟩] _ _ _ rfl) (by decide) (getD_small (by decide) (by decide))).mono ?_
  rintro e x3 ⟨rfl, kb3⟩
  rw [F9.out]
  have hE3 : Ext x2 x3 := (Ext.alloc x2 _).trans kb3
  go_wp2_with fail
  refine (Of_any _ _ (by simp only [ByteArray.size_append, za, zb]; decide)).mono ?_
  rintro e x4 ⟨rfl, kb4⟩
  rw [HN.out]
  go_wp2_with fail
  refine (Prove_yes (some ⟨x4.heap.size, 0, none⟩) 3 3 2 [⟨#[97]⟩, ⟨#[98]⟩, ⟨#[99]⟩] _ (strs_new x4 [⟨#[97]⟩, ⟨#[98]⟩, ⟨#[99]⟩] _ _ _ rfl) (by decide) (getD_small (by decide) (by decide)) (by decide)).mono ?_
  rintro e x5 ⟨vp, rfl, hO, kb5⟩
  rw [F10.out] at hO
  have hE5 : Ext x4 x5 := (Ext.alloc x4 _).trans kb5
  obtain ⟨Ap, cp, rfl, hSp⟩ := hO.form
  go_wp2_with fail
  refine (Of_any _ _ (by simp only [ByteArray.size_append, za, zb]; decide)).mono ?_
  rintro e x6 ⟨rfl, kb6⟩
  rw [HN.out]
  go_wp2_with fail
  refine (same_any Ap (some ⟨x6.heap.size, 0, none⟩) 2 2 cp 2 [d5, dn] [d5, dn] _ ((hSp.below (Ext.trans kb6 (Ext.alloc x6 _)).below (Nat.le_refl _)).more (by have := Below.size kb6; simp; omega)) (strs_new x6 [d5, dn] _ _ _ rfl) (by decide) (by decide)).mono ?_
  rintro e x7 ⟨rfl, kb7⟩
  rw [sameL_same]
  have hE7 : Ext x6 x7 := (Ext.alloc x6 _).trans kb7
  go_wp2_with fail
  refine (Verify_any _ _ 0 none 0 0 [] _ (Strs.nil _ _ _) (by decide) Sm.nil (by decide) (by decide)).mono ?_
  rintro e x8 ⟨rfl, kb8⟩
  rw [F11.out]
  go_wp2_with fail
  refine (Verify_any _ _ 1 none 0 0 [] _ (Strs.nil _ _ _) (by decide) Sm.nil (by decide) (by decide)).mono ?_
  rintro e x9 ⟨rfl, kb9⟩
  rw [sn12]
  go_wp2_with fail
  go_ret
  refine ⟨rfl, ?_⟩
  have c2 : Ext w w2 := Ext.trans hb1 hb2
  have c4 : Ext w w4 := (c2.trans hb3).trans hb4
  have c6 : Ext w w6 := (c4.trans hb5).trans hb6
  have c8 : Ext w w8 := (c6.trans hb7).trans hb8
  have c10 : Ext w w10 := (c8.trans hb9).trans hb10
  have c13 : Ext w w13 := ((c10.trans hb11).trans hb12).trans hb13
  have d1 : Ext w x1 := c13.trans kb1
  have d4 : Ext w x4 := ((d1.trans hE2).trans hE3).trans kb4
  have d7 : Ext w x7 := ((d4.trans hE5).trans kb6).trans hE7
  exact ((d7.trans kb8).trans kb9)
end Go.Proofs.Ytncdnopnjdbleaa
