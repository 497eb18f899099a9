/- The statement WireNothing, the tied card: at every input the call returns true and its arguments read as they did. The listed package variables hold what the program's text lays; the card ties them. -/
import Derived.Test.YthdbdpfgccipdaaDoorVm
import Derived.Test.YthdbdpfgccipdaaDoorVy
import Derived.Test.YthdbdpfgccipdaaDoorTie
import Derived.Test.YthdbdpfgccipdaaDoorCards
import Derived.OpenShut
import Derived.Stop.Joined
import Derived.SevenTiedAt
import Derived.ProofKit
import Derived.LaidMore
namespace Go.Proofs.YthdbdpfgccipdaaDoor
open Go.RowKit Hach Num
open Go.ChangeShapes Go.WideShapes Go.ChangeAt Go.WideMaps Go.WideElems
open Go.ChangeMaps (open_string shut_string)

theorem wireNothing_met (os : Os) (args : Array Value) : laidMetH Tryd.prog Laids ((World.doorLaid Tryd.prog 400 os).forCall (fun _ _ => 0) ⟨#[], args, []⟩).memory :=
  laidMetH_of_parts3 (fuel := 8) (laidMet_of_run' 8 (by kernel_rfl) (by kernel_rfl)) (by kernel_rfl) (by kernel_rfl)
set_option maxRecDepth 100000 in
theorem wireNothing_lifted (os : Os) (started : os.Started) (H : Type) (enc : TypeId × Value → H) :
    ReturnsInHanded {} Tryd.checked os 9 .any (fun w args => (Rows.wireNothingSpec.pre enc Tryd.prog Tryd.f9 [] false w args ∧ laidMetH Tryd.prog Laids w) ∧ sizedMet enc Tryd.prog Tryd.f9 (OpenSpec.ofChange Rows.wireNothingSpec) false w args) (Rows.wireNothingSpec.post enc Tryd.prog Tryd.f9 false true false false) := by
  refine handed_shaped (C := Tryd.checked) (X := fun w _ => laidMetH Tryd.prog Laids w) (fun _ _ _ hh h => h.of_heap hh) own started (by kernel_rfl) Tryd.func9
    (ChangeSpec.witness_shaped (enc := enc) (C := Tryd.checked) (os := os) (X := fun w _ => laidMetH Tryd.prog Laids w) false (World.doorLaid Tryd.prog 400 os) #[.int .u8 0] 8 rfl (World.shaped_of_RefB (by kernel_rfl) (by kernel_rfl)) (by kernel_rfl) (by kernel_rfl) (by kernel_rfl) (wireNothing_met os _)) ?_
  intro W base args ds gs before hval0 hW hSh hL
  have HT := tabs_of hL hSh
  have hval : ∀ (j : Nat) t v, Tryd.f9.params[j]? = some t → args[j]? = some v → Value.okWide Tryd.prog W .any base t v := hval0
  have hW' := hW
  obtain ⟨p, q, hA0, hV, rfl, hfz, hnd⟩ := hW
  have hA : DataW.TrodAll enc Tryd.prog W 0 (fun _ => true) true Tryd.f9.params.toList args.toList ds p := hA0
  rw [Tryd.params9] at hA hval
  have hAk := hA
  obtain ⟨v0, vs0, d0, ds0, p0, q0, hargs, rfl, hp0, h0, r0⟩ := trodAll_cons hA
  obtain ⟨rfl, rfl, hpn⟩ := trodAll_nil r0
  obtain rfl : args = #[v0] := by cases args; simp_all
  obtain ⟨rfl, rfl⟩ := trodVars_none hV
  obtain ⟨a0z, rfl, rfl, _, w0⟩ := open_int Tryd.underlying5 (hval 0 5 v0 rfl rfl) h0
  have b0z := bounds_u8 w0
  obtain ⟨a0, rfl⟩ : ∃ k : Nat, a0z = k := ⟨a0z.toNat, by omega⟩
  have b0 : a0 < 256 := by omega
  clear hA0 hval0
  simp only [List.append_nil] at hW'
  refine (WireNothing_any a0 W HT b0).mono fun e W' ⟨he, hg⟩ => ?_
  subst he
  exact ⟨_, rfl, _, _, _, [], p, [], hW', trodAll_cons_mk (shut_bool Tryd.underlying4 _) trodAll_mk0, args_back laid hg _ _ _ _ (by rw [Tryd.params9]; kernel_rfl) hAk (fun x hx => by simpa using hW'.lt x (by simpa using hx)), rfl, hg.frame _, fun h => by cases h⟩

theorem wireNothing_holds : Rows.WireNothingSaid :=
  OpenClaim.holds_of_wide 9 Tryd.f9 rfl rfl rfl rfl rfl rfl rfl ⟨rfl, rfl, rfl, rfl, rfl⟩ rfl rfl rfl rfl rfl (by kernel_rfl) Tryd.func9 (by kernel_rfl)
    (of_decide_eq_true (by kernel_rfl)) (by unfold Func.isWrapper; first | (rw [if_pos (by decide +kernel)]; kernel_rfl) | (rw [if_neg (by decide +kernel)]; exact ⟨rfl, rfl⟩))
    (fun os started H enc _ => wireNothing_lifted os started H enc)
#print axioms wireNothing_holds
theorem wireNothingCard_holds : Rows.WireNothingCardSaid :=
  Claim7.holds_tied_plain_at .later [] [.data, .data, .data, .sentinel, .sentinel] true _ true
    wireNothing_holds (fun _ h => by cases h) (by kernel_rfl) (fun _ h => by cases h) wireNothing_row_tie rfl ⟨rfl, rfl⟩ (by kernel_rfl) rfl
    (fun f fn hf hfn => by
      obtain rfl : f = 9 := Option.some.inj ((show Tryd.prog.funcNamed "hachure/hachurelaw02.WireNothing" = some 9 by kernel_rfl).symm.trans hf) |>.symm
      obtain rfl : fn = Tryd.f9 := (Option.some.inj (Tryd.func9.symm.trans hfn)).symm
      exact ⟨by kernel_rfl, fun j t ht => by
        have hall : (Tryd.f9.params.all fun t => !Tryd.prog.wantsStandIn t) = true := by kernel_rfl
        have hm := Array.mem_of_getElem? ht
        have := (Array.all_eq_true_iff_forall_mem.1 hall) t hm
        have h2 : Tryd.prog.wantsStandIn t = false := by simpa using this
        exact h2⟩)
    (by kernel_rfl)
#print axioms wireNothingCard_holds
end Go.Proofs.YthdbdpfgccipdaaDoor
