/- The statement WirePrefix, the tied card: at every input the call returns true and its arguments read as they did. The listed package variables hold what the program's text lays; the card ties them. -/
import Derived.Test.YthdbdpfgccipdaaDoorTd
import Derived.Test.YthdbdpfgccipdaaDoorVy
import Derived.Test.YthdbdpfgccipdaaDoorTie
import Derived.Test.YthdbdpfgccipdaaDoorCards
import Derived.OpenShut
import Derived.Stop.Joined
import Derived.SevenTiedAt
import Derived.ProofKit
import Derived.LaidMore
namespace Go.Proofs.YthdbdpfgccipdaaDoor
open Go.RowKit Hach Num
open Go.ChangeShapes Go.WideShapes Go.ChangeAt Go.WideMaps Go.WideElems
open Go.ChangeMaps (open_string shut_string)

theorem wirePrefix_met (os : Os) (args : Array Value) : laidMetH Tryd.prog Laids ((World.doorLaid Tryd.prog 400 os).forCall (fun _ _ => 0) ⟨#[], args, []⟩).memory :=
  laidMetH_of_parts3 (fuel := 8) (laidMet_of_run' 8 (by kernel_rfl) (by kernel_rfl)) (by kernel_rfl) (by kernel_rfl)
set_option maxRecDepth 100000 in
theorem wirePrefix_lifted (os : Os) (started : os.Started) (H : Type) (enc : TypeId × Value → H) :
    ReturnsInHanded {} Tryd.checked os 8 .any (fun w args => (Rows.wirePrefixSpec.pre enc Tryd.prog Tryd.f8 [] false w args ∧ laidMetH Tryd.prog Laids w) ∧ sizedMet enc Tryd.prog Tryd.f8 (OpenSpec.ofChange Rows.wirePrefixSpec) false w args) (Rows.wirePrefixSpec.post enc Tryd.prog Tryd.f8 false true false false) := by
  refine handed_shaped (C := Tryd.checked) (X := fun w _ => laidMetH Tryd.prog Laids w) (fun _ _ _ hh h => h.of_heap hh) own started (by kernel_rfl) Tryd.func8
    (ChangeSpec.witness_shaped (enc := enc) (C := Tryd.checked) (os := os) (X := fun w _ => laidMetH Tryd.prog Laids w) false (World.doorLaid Tryd.prog 400 os) #[.agg #[.int .u8 0, .int .i64 0, .string ByteArray.empty, .slice none 0 0, .slice none 0 0], .agg #[.int .u8 0, .int .i64 0, .string ByteArray.empty, .slice none 0 0, .slice none 0 0]] 8 rfl (World.shaped_of_RefB (by kernel_rfl) (by kernel_rfl)) (by kernel_rfl) (by kernel_rfl) (by kernel_rfl) (wirePrefix_met os _)) ?_
  intro W base args ds gs before hval0 hW hSh hL
  have HT := tabs_of hL hSh
  have hval : ∀ (j : Nat) t v, Tryd.f8.params[j]? = some t → args[j]? = some v → Value.okWide Tryd.prog W .any base t v := hval0
  have hW' := hW
  obtain ⟨p, q, hA0, hV, rfl, hfz, hnd⟩ := hW
  have hA : DataW.TrodAll enc Tryd.prog W 0 (fun _ => true) true Tryd.f8.params.toList args.toList ds p := hA0
  rw [Tryd.params8] at hA hval
  have hAk := hA
  obtain ⟨v0, vs0, d0, ds0, p0, q0, hargs, rfl, hp0, h0, r0⟩ := trodAll_cons hA
  obtain ⟨v1, vs1, d1, ds1, p1, q1, rfl, rfl, hp1, h1, r1⟩ := trodAll_cons r0
  obtain ⟨rfl, rfl, hpn⟩ := trodAll_nil r1
  obtain rfl : args = #[v0, v1] := by cases args; simp_all
  obtain ⟨rfl, rfl⟩ := trodVars_none hV
  obtain ⟨c0_0, c1_0, c2_0, c3_0, c4_0, y0_0, y1_0, y2_0, y3_0, y4_0, m_0, rfl, _, _, hy0_0, hy1_0, hy2_0, hy3_0, hy4_0⟩ := open_agg5 Tryd.underlying45 (by kernel_rfl) (show Tryd.prog.cellsOf 45 = 5 by kernel_rfl) (hval 0 45 v0 rfl rfl) h0
  obtain ⟨z_0, n_0, s_0, xs_0, ts_0, hP_0⟩ := parts_of hy0_0 hy1_0 hy2_0 hy3_0 hy4_0
  obtain ⟨c0_1, c1_1, c2_1, c3_1, c4_1, y0_1, y1_1, y2_1, y3_1, y4_1, m_1, rfl, _, _, hy0_1, hy1_1, hy2_1, hy3_1, hy4_1⟩ := open_agg5 Tryd.underlying45 (by kernel_rfl) (show Tryd.prog.cellsOf 45 = 5 by kernel_rfl) (hval 1 45 v1 rfl rfl) h1
  obtain ⟨z_1, n_1, s_1, xs_1, ts_1, hP_1⟩ := parts_of hy0_1 hy1_1 hy2_1 hy3_1 hy4_1
  clear hA0 hval0
  simp only [List.append_nil] at hW'
  refine (WirePrefix_any _ _ _ _ _ _ _ _ _ _ z_0 z_1 n_0 n_1 s_0 s_1 xs_0 xs_1 ts_0 ts_1 W HT hP_0 hP_1).mono fun e W' ⟨he, hg⟩ => ?_
  subst he
  exact ⟨_, rfl, _, _, _, [], p, [], hW', trodAll_cons_mk (shut_bool Tryd.underlying4 _) trodAll_mk0, args_back laid hg _ _ _ _ (by rw [Tryd.params8]; kernel_rfl) hAk (fun x hx => by simpa using hW'.lt x (by simpa using hx)), rfl, hg.frame _, fun h => by cases h⟩

theorem wirePrefix_holds : Rows.WirePrefixSaid :=
  OpenClaim.holds_of_wide 8 Tryd.f8 rfl rfl rfl rfl rfl rfl rfl ⟨rfl, rfl, rfl, rfl, rfl⟩ rfl rfl rfl rfl rfl (by kernel_rfl) Tryd.func8 (by kernel_rfl)
    (of_decide_eq_true (by kernel_rfl)) (by unfold Func.isWrapper; first | (rw [if_pos (by decide +kernel)]; kernel_rfl) | (rw [if_neg (by decide +kernel)]; exact ⟨rfl, rfl⟩))
    (fun os started H enc _ => wirePrefix_lifted os started H enc)
#print axioms wirePrefix_holds
theorem wirePrefixCard_holds : Rows.WirePrefixCardSaid :=
  Claim7.holds_tied_plain_at .later [] [.data, .data, .data, .sentinel, .sentinel] true _ true
    wirePrefix_holds (fun _ h => by cases h) (by kernel_rfl) (fun _ h => by cases h) wirePrefix_row_tie rfl ⟨rfl, rfl⟩ (by kernel_rfl) rfl
    (fun f fn hf hfn => by
      obtain rfl : f = 8 := Option.some.inj ((show Tryd.prog.funcNamed "hachure/hachurelaw02.WirePrefix" = some 8 by kernel_rfl).symm.trans hf) |>.symm
      obtain rfl : fn = Tryd.f8 := (Option.some.inj (Tryd.func8.symm.trans hfn)).symm
      exact ⟨by kernel_rfl, fun j t ht => by
        have hall : (Tryd.f8.params.all fun t => !Tryd.prog.wantsStandIn t) = true := by kernel_rfl
        have hm := Array.mem_of_getElem? ht
        have := (Array.all_eq_true_iff_forall_mem.1 hall) t hm
        have h2 : Tryd.prog.wantsStandIn t = false := by simpa using this
        exact h2⟩)
    (by kernel_rfl)
#print axioms wirePrefixCard_holds
end Go.Proofs.YthdbdpfgccipdaaDoor
