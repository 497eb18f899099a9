/- The statement DigestVerifies: the frame. At every input the call returns true and its arguments read as they did. No condition. -/
import Derived.Test.YtncdnopnjdbleaaDj
namespace Go.Proofs.Ytncdnopnjdbleaa
open Go.RowKit Hach
open Go.ChangeShapes Go.WideShapes Go.ChangeAt
open Go.ChangeMaps (open_string shut_string)
open Go.WideMaps Go.WideElems

theorem proof_open {H : Type} {enc : TypeId × Value → H} {r : Reach} {b0 : Nat} {W : World} {v : Value} {d : DataW H} {ps : List MemPlace} (hv : Value.okWide Try.prog W r b0 43 v) (h : DataW.Trod enc Try.prog W 0 (fun _ => true) true 43 v d ps) :
    ∃ (A : Option Addr) (n c : Nat) (ss : List ByteArray) (i : Int), v = .agg #[.slice A n c, .int .i64 i] ∧ Strs W W.heap.size A n ss ∧ n < 9223372036854775808 ∧ (∀ k, (ss.getD k ByteArray.empty).size < 9223372036854775808) ∧ (-9223372036854775808 ≤ i ∧ i ≤ 9223372036854775807) := by
  obtain ⟨c0, c1, y0, y1, m0, rfl, _, _, hy0, hy1⟩ := Joins.open_agg2 Try.underlying43 (by kernel_rfl) (show Try.prog.cellsOf 43 = 2 by kernel_rfl) hv h
  obtain ⟨i, e1, _, wi⟩ := DataW.trod_int Try.underlying3 hy1
  simp only [List.cons.injEq, and_true] at e1
  subst e1
  have hs : ∃ A n c, c0 = .slice A n c := by
    rcases open_strings Try.underlying28 Try.underlying9 (show Try.prog.cellsOf 9 = 1 by kernel_rfl) hy0 with ⟨hcs, _⟩ | ⟨a, len, cap, ss, hcs, _⟩
    · simp only [List.cons.injEq, and_true] at hcs; exact ⟨_, _, _, hcs⟩
    · simp only [List.cons.injEq, and_true] at hcs; exact ⟨_, _, _, hcs⟩
  obtain ⟨A, n, c, rfl⟩ := hs
  obtain ⟨ss, hS, hn, hsm⟩ := strs_open (A := A) (n := n) (c := c) hy0
  exact ⟨A, n, c, ss, i, rfl, hS, hn, hsm, bounds_i64 wi⟩

set_option maxRecDepth 100000 in
theorem digestVerifies_lifted (os : Os) (started : os.Started) (H : Type) (enc : TypeId × Value → H) :
    ReturnsInHanded {} Try.checked os 7 .any (Rows.digestVerifiesSpec.pre6 enc Try.prog Try.f7 Rows.digestVerifiesRow.domain false) (Rows.digestVerifiesSpec.post enc Try.prog Try.f7 false true false false) := by
  refine returnsInHanded_of_change (C := Try.checked) knob started (by kernel_rfl) Try.func7
    (ChangeSpec.witness6 (enc := enc) (C := Try.checked) false ⟨#[], #[.slice none 0 0, .agg #[.int .u8 0, .int .u8 0], .agg #[.string ByteArray.empty, .int .u8 0, .int .u8 0], .agg #[.slice none 0 0, .int .i64 0]], []⟩ 8 (by kernel_rfl) (by kernel_rfl) (by kernel_rfl) (by kernel_rfl)) ?_
  intro W base args ds gs before hval0 hW hcnd _
  have hval : ∀ (j : Nat) t v, Try.f7.params[j]? = some t → args[j]? = some v → Value.okWide Try.prog W .any base t v := hval0
  have hW' := hW
  obtain ⟨p, q, hA0, hV, rfl, hfz, hnd⟩ := hW
  have hA : DataW.TrodAll enc Try.prog W 0 (fun _ => true) true Try.f7.params.toList args.toList ds p := hA0
  rw [Try.params7] at hA hval
  have hAk := hA
  obtain ⟨v0, vs0, d0, ds0, p0, q0, hargs, rfl, hp0, h0, r0⟩ := trodAll_cons hA
  obtain ⟨v1, vs1, d1, ds1, p1, q1, rfl, rfl, hp1, h1, r1⟩ := trodAll_cons r0
  obtain ⟨v2, vs2, d2, ds2, p2, q2, rfl, rfl, hp2, h2, r2⟩ := trodAll_cons r1
  obtain ⟨v3, vs3, d3, ds3, p3, q3, rfl, rfl, hp3, h3, r3⟩ := trodAll_cons r2
  obtain ⟨rfl, rfl, hpn⟩ := trodAll_nil r3
  obtain rfl : args = #[v0, v1, v2, v3] := by cases args; simp_all
  obtain ⟨rfl, rfl⟩ := trodVars_none hV
  obtain ⟨A0, n0, c0, rfl⟩ := okWide_slice Try.underlying28 (hval 0 28 v0 rfl rfl)
  obtain ⟨fuel0, hf0⟩ := h0
  obtain ⟨ss0, hS0, hn0, hs0⟩ := strs_open hf0
  obtain ⟨pa, qa, rfl, bpa, bqa⟩ := two_open (hval 1 41 v1 rfl rfl) h1
  obtain ⟨so, no, co, rfl, wso, bno, bco⟩ := other_open (hval 2 27 v2 rfl rfl) h2
  obtain ⟨A3, n3, c3, ss3, i3, rfl, hS3, hn3, hs3, hi3⟩ := proof_open (hval 3 43 v3 rfl rfl) h3
  clear hA0 hval0
  simp only [List.append_nil] at hW'
  refine (DigestVerifies_any A0 n0 c0 ss0 pa qa so no co A3 n3 c3 ss3 i3 W hS0 hn0 hs0 bpa bqa wso bno bco hS3 hn3 hs3 hi3).mono fun e W' ⟨he, hg⟩ => ?_
  subst he
  exact ⟨_, rfl, _, _, _, [], p, [], hW', trodAll_cons_mk (shut_bool Try.underlying4 _) trodAll_mk0, args_back laid hg _ _ _ _ (by rw [Try.params7]; kernel_rfl) hAk (fun x hx => by simpa using hW'.lt x (by simpa using hx)), rfl, hg.frame _, fun h => by cases h⟩

theorem digestVerifies_holds : Rows.DigestVerifiesSaid :=
  OpenClaim.holds_of_wide 7 Try.f7 rfl rfl rfl rfl rfl rfl rfl ⟨rfl, rfl, rfl, rfl, rfl⟩ rfl rfl rfl rfl rfl (by kernel_rfl) Try.func7 (by kernel_rfl)
    (of_decide_eq_true (by kernel_rfl)) (by unfold Func.isWrapper; first | (rw [if_pos (by decide +kernel)]; kernel_rfl) | (rw [if_neg (by decide +kernel)]; exact ⟨rfl, rfl⟩))
    (fun os started H enc _ => digestVerifies_lifted os started H enc)
#print axioms digestVerifies_holds
end Go.Proofs.Ytncdnopnjdbleaa
