/- The statement DigestTrees: at every input the call returns true and its arguments read as they did. No condition. -/
import Derived.Test.YtncdnopnjdbleaaDm
namespace Go.Proofs.Ytncdnopnjdbleaa
open Go.RowKit Hach
open Go.ChangeShapes Go.WideShapes Go.ChangeAt
open Go.WideMaps Go.WideElems

/- a slice of strings among the arguments -/
theorem strs_open {H : Type} {enc : TypeId × Value → H} {W : World} {fuel : Nat} {A : Option Addr} {n c : Nat} {x : DataW H × List MemPlace} (h : DataW.trod enc Try.prog W 0 (fun _ => true) true fuel 28 (Value.slice A n c).cells.toList = some x) :
    ∃ ss, Strs W W.heap.size A n ss ∧ n < 9223372036854775808 ∧ ∀ k, (ss.getD k ByteArray.empty).size < 9223372036854775808 := by
  rcases open_strings Try.underlying28 Try.underlying9 (show Try.prog.cellsOf 9 = 1 by kernel_rfl) h with ⟨hcs, _⟩ | ⟨a, len, cap, ss, hcs, _, hl, hm, hz, _, hcell, hws⟩
  · simp [Value.cells] at hcs
    obtain ⟨rfl, rfl, rfl⟩ := hcs
    exact ⟨[], Strs.nil _ _ _, by decide, fun k => by simp⟩
  · simp [Value.cells] at hcs
    obtain ⟨rfl, rfl, rfl⟩ := hcs
    have hz' : ss.length = c := by simpa using hz
    have hm' : c < 9223372036854775808 := by simp only [maxLen] at hm; omega
    refine ⟨ss.take n, ⟨by rw [List.length_take, hz']; omega, fun h0 => ?_⟩, by omega, getD_small (by decide) fun s hs => ?_⟩
    · obtain ⟨b, o, spot⟩ := a
      have hspot : spot = none := by simpa [Addr.add] using World.cell?_spot (hcell 0 (by omega))
      subst hspot
      have hb : b < W.heap.size := World.block_lt_of_cell? W _ (hcell 0 (by omega))
      refine ⟨b, o, rfl, hb, fun j hj => ?_⟩
      have := hcell j (by omega)
      rw [Go.WideShapes.add_plain] at this
      rw [this]
      simp [List.getD, List.getElem?_take, hj]
    · have := hws s (List.mem_of_mem_take hs)
      simp only [maxLen] at this
      omega
theorem lst_length (ss : List ByteArray) : (lst ss).length ≤ 20 := by unfold lst lst0; simp; omega
theorem cut30_size (s : ByteArray) : (cut30 s).size < 31 := by unfold cut30; rw [ByteArray.size_extract]; omega
theorem lst_small (ss : List ByteArray) : ∀ k, ((lst ss).getD k ByteArray.empty).size < 31 := getD_small (by decide) (fun s hs => by
  unfold lst at hs
  obtain ⟨x, _, rfl⟩ := List.mem_map.1 hs
  exact cut30_size x)

theorem prvL_len : ∀ (f : Nat) (l : List ByteArray) (i : Nat), l.length ≤ f → (prvL l i).length ≤ l.length
  | 0, l, i, h => by rw [prvL_one _ (by omega)]; simp
  | f + 1, l, i, h => by
    by_cases h1 : 1 < l.length
    · have ha := abv_length l
      have := prvL_len f (abv l) (i / 2) (by omega)
      rw [prvL_abv _ h1, List.length_cons]
      omega
    · rw [prvL_one _ h1]; simp
theorem prvS_length (l : List ByteArray) (i : Nat) (h : l.length ≤ 21) : (prvS l i).length ≤ 44 := by
  have h1 := prvL_len _ (lvs l) i (Nat.le_refl _)
  rw [lvs_length] at h1
  have h2 := p2_le (n := l.length) (m := 22) (by omega) (by omega)
  show (prvL (lvs l) i).length ≤ 44
  omega

set_option maxHeartbeats 1000000 in
theorem DigestTrees_any (A : Option Addr) (n c : Nat) (ss : List ByteArray) (i : Int) (w : World) (hS : Strs w w.heap.size A n ss) (hn : n < 9223372036854775808) (hsm : ∀ k, (ss.getD k ByteArray.empty).size < 9223372036854775808) (hi : (Lit.int .i64 i).wf = true) :
    Calls Try.prog 6 #[.slice A n c, .int .i64 i] w fun e w' => e = .returned (.bool true) ∧ Below w.heap.size w w' := by
  have bi := bounds_i64 hi
  have bj := bounds_i64 (wf_bits .and .i64 i 31)
  generalize hz : bits .and .i64 i 31 = j at bj
  go_enter Try.func6, Try.ntmps6
  go_wp2_with fail
  refine (sanity_any _).mono ?_
  rintro e w1 ⟨rfl, hb1⟩
  go_wp2_with fail
  refine (list_any A n c ss w1 ((hS.below hb1 (Nat.le_refl _)).more (Below.size hb1)) hn hsm).mono ?_
  rintro e w2 ⟨v, rfl, hO, hb2⟩
  have hl := lst_length ss
  have hls := lst_small ss
  generalize lst ss = l at hO hl hls
  obtain ⟨A2, c2, rfl, hS2⟩ := hO.form
  obtain ⟨m, hm⟩ : ∃ m, l.length = m := ⟨_, rfl⟩
  have HM := Lib.hid hm
  rw [hm] at hS2 hl ⊢
  clear hm
  go_wp2_with fail
  obtain ⟨zs, hzs⟩ : ∃ zs : List Int, [i, j, (m : Int), -1] = zs := ⟨_, rfl⟩
  have hzb : ∀ k, -9223372036854775808 ≤ zs.getD k 0 ∧ zs.getD k 0 ≤ 9223372036854775807 := by
    intro k
    rw [← hzs]
    match k with
    | 0 => exact bi
    | 1 => exact bj
    | 2 => show _ ≤ (m : Int) ∧ (m : Int) ≤ _; omega
    | 3 => show _ ≤ (-1 : Int) ∧ (-1 : Int) ≤ _; decide
    | k + 4 => show _ ≤ (0 : Int) ∧ (0 : Int) ≤ _; decide
  obtain ⟨w3, hw3⟩ : ∃ w3, w2.alloc (.cells #[.int .i64 i, .int .i64 j, .int .i64 (m : Int), .int .i64 (-1)] 3) = w3 := ⟨_, rfl⟩
  have hcz : ∀ k, k < 4 → w3.cell? ⟨w2.heap.size, k, none⟩ = some (.int .i64 (zs.getD k 0)) := by
    intro k hk
    rw [← hw3, World.cell?_alloc_new, ← hzs]
    match k, hk with
    | 0, _ => rfl
    | 1, _ => rfl
    | 2, _ => rfl
    | 3, _ => rfl
  have hE3 : Ext w2 w3 := by rw [← hw3]; exact Ext.alloc _ _
  have hlt3 : w2.heap.size < w3.heap.size := by rw [← hw3]; simp
  have hS3 := (hS2.below hE3 (Nat.le_refl _)).more hE3.sz
  rw [hw3]
  go_loopw [22] (fun k wr => ∃ q : Nat, q ≤ 4 ∧ k = .int .i64 q ∧ Ext w3 wr) (fun k _ => 4 - (intOf k).toNat)
  case atStart => exact ⟨0, by omega, rfl, Ext.refl _⟩
  case round =>
    obtain ⟨q, hq, rfl, hEr⟩ := hrel
    have hSr := (hS3.below hEr (Nat.le_refl _)).more hEr.sz
    by_cases hq4 : q < 4
    · have cq : wr.cell? ⟨w2.heap.size, q, none⟩ = some (.int .i64 (zs.getD q 0)) := (hEr.old (p := ⟨w2.heap.size, q, none⟩) hlt3).trans (hcz q hq4)
      have bq := hzb q
      generalize zs.getD q 0 = z at cq bq
      have tk : decide ((q : Int) < 4) = true := by simp; omega
      by_cases hz : z < 0 ∨ (m : Int) ≤ z
      · go_wp2_with fail
        refine (Prove_no A2 m c2 z wr (by omega) bq hz).mono ?_
        rintro e x1 ⟨rfl, kb1⟩
        go_wp2_with fail
        refine (rProve_no A2 m c2 z x1 (by omega) bq hz).mono ?_
        rintro e x2 ⟨rfl, rfl⟩
        go_wp2_with fail
        refine (same_any none none 0 0 0 0 [] [] x1 (Strs.nil _ _ _) (Strs.nil _ _ _) (by decide) (by decide)).mono ?_
        rintro e x3 ⟨rfl, kb3⟩
        rw [sameL_same]
        go_wp2_with fail
        go_roundw
        case rel => exact ⟨q + 1, by omega, by go_num, (hEr.trans kb1).trans kb3⟩
        case measure => simp [intOf]; omega
      · obtain ⟨z', rfl⟩ : ∃ k : Nat, z = k := ⟨z.toNat, by omega⟩
        have hzm : z' < m := by omega
        clear hz bq
        go_wp2_with fail
        refine (Prove_yes A2 m c2 z' l wr hSr (by omega) (fun k => Nat.lt_trans (hls k) (by decide)) hzm).mono ?_
        rintro e x1 ⟨v1, rfl, o1, kb1⟩
        obtain ⟨B1, d1, rfl, s1⟩ := o1.form
        go_wp2_with fail
        refine (rProve_yes A2 m c2 z' l x1 ((hSr.below kb1 (Nat.le_refl _)).more (Below.size kb1)) (by omega) (fun k => Nat.lt_trans (hls k) (by decide)) hzm).mono ?_
        rintro e x2 ⟨v2, rfl, o2, kb2⟩
        obtain ⟨B2, d2, rfl, s2⟩ := o2.form
        have hpl := prvS_length l z' (by rw [HM.out]; omega)
        go_wp2_with fail
        refine (same_any B1 B2 _ _ d1 d2 (prvS l z') (prvS l z') x2 ((s1.below kb2 (Nat.le_refl _)).more (Below.size kb2)) s2 (by omega) (by omega)).mono ?_
        rintro e x3 ⟨rfl, kb3⟩
        rw [sameL_same]
        go_wp2_with fail
        go_roundw
        case rel => exact ⟨q + 1, by omega, by go_num, ((hEr.trans kb1).trans kb2).trans kb3⟩
        case measure => simp [intOf]; omega
    · obtain rfl : q = 4 := by omega
      go_wp2_with fail
      refine (Root_any A2 m c2 l wr hSr (by omega) (fun k => Nat.lt_trans (hls k) (by decide))).mono ?_
      rintro e x1 ⟨rfl, kb1⟩
      go_wp2_with fail
      refine (rRoot_any A2 m c2 l x1 ((hSr.below kb1 (Nat.le_refl _)).more (Below.size kb1)) (by omega) (fun k => Nat.lt_trans (hls k) (by decide))).mono ?_
      rintro e x2 ⟨rfl, kb2⟩
      go_wp2_with fail
      go_ret
      exact ⟨rfl, ((((show Ext w w1 from hb1).trans hb2).trans hE3).trans hEr).trans kb1 |>.trans kb2⟩

open Go.ChangeMaps (open_string shut_string)
open Go.Joins
set_option maxRecDepth 100000 in
theorem digestTrees_lifted (os : Os) (started : os.Started) (H : Type) (enc : TypeId × Value → H) :
    ReturnsInHanded {} Try.checked os 6 .any (Rows.digestTreesSpec.pre6 enc Try.prog Try.f6 Rows.digestTreesRow.domain false) (Rows.digestTreesSpec.post enc Try.prog Try.f6 false true false false) := by
  refine returnsInHanded_of_change (C := Try.checked) knob started (by kernel_rfl) Try.func6
    (ChangeSpec.witness6 (enc := enc) (C := Try.checked) false ⟨#[], #[.slice none 0 0, .int .i64 0], []⟩ 8 (by kernel_rfl) (by kernel_rfl) (by kernel_rfl) (by kernel_rfl)) ?_
  intro W base args ds gs before hval0 hW hcnd _
  have hval : ∀ (j : Nat) t v, Try.f6.params[j]? = some t → args[j]? = some v → Value.okWide Try.prog W .any base t v := hval0
  have hW' := hW
  obtain ⟨p, q, hA0, hV, rfl, hfz, hnd⟩ := hW
  have hA : DataW.TrodAll enc Try.prog W 0 (fun _ => true) true Try.f6.params.toList args.toList ds p := hA0
  rw [Try.params6] at hA hval
  have hAk := hA
  obtain ⟨v0, vs0, d0, ds0, p0, q0, hargs, rfl, hp0, h0, r0⟩ := trodAll_cons hA
  obtain ⟨v1, vs1, d1, ds1, p1, q1, rfl, rfl, hp1, h1, r1⟩ := trodAll_cons r0
  obtain ⟨rfl, rfl, hpn⟩ := trodAll_nil r1
  obtain rfl : args = #[v0, v1] := by cases args; simp_all
  obtain ⟨rfl, rfl⟩ := trodVars_none hV
  obtain ⟨A0, n0, c0, rfl⟩ := okWide_slice Try.underlying28 (hval 0 28 v0 rfl rfl)
  obtain ⟨fuel0, hf0⟩ := h0
  obtain ⟨ss0, hS0, hn0, hs0⟩ := strs_open hf0
  obtain ⟨i1, rfl, rfl, _, w1⟩ := open_int Try.underlying3 (hval 1 3 v1 rfl rfl) h1
  clear hA0 hval0
  simp only [List.append_nil] at hW'
  refine (DigestTrees_any A0 n0 c0 ss0 i1 W hS0 hn0 hs0 w1).mono fun e W' ⟨he, hg⟩ => ?_
  subst he
  exact ⟨_, rfl, _, _, _, [], p, [], hW', trodAll_cons_mk (shut_bool Try.underlying4 _) trodAll_mk0, args_back laid hg _ _ _ _ (by rw [Try.params6]; kernel_rfl) hAk (fun x hx => by simpa using hW'.lt x (by simpa using hx)), rfl, hg.frame _, fun h => by cases h⟩

theorem digestTrees_holds : Rows.DigestTreesSaid :=
  OpenClaim.holds_of_wide 6 Try.f6 rfl rfl rfl rfl rfl rfl rfl ⟨rfl, rfl, rfl, rfl, rfl⟩ rfl rfl rfl rfl rfl (by kernel_rfl) Try.func6 (by kernel_rfl)
    (of_decide_eq_true (by kernel_rfl)) (by unfold Func.isWrapper; first | (rw [if_pos (by decide +kernel)]; kernel_rfl) | (rw [if_neg (by decide +kernel)]; exact ⟨rfl, rfl⟩))
    (fun os started H enc _ => digestTrees_lifted os started H enc)
#print axioms digestTrees_holds
end Go.Proofs.Ytncdnopnjdbleaa
