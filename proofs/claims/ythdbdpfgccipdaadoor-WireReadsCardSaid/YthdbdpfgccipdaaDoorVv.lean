/- The statement WireReads, the tied card: at every input the call returns true and its arguments read as they did. The listed package variables hold what the program's text lays; the card ties them. -/
import Derived.Test.YthdbdpfgccipdaaDoorVu
import Derived.Test.YthdbdpfgccipdaaDoorVy
import Derived.Test.YthdbdpfgccipdaaDoorTie
import Derived.Test.YthdbdpfgccipdaaDoorCards
import Derived.OpenShut
import Derived.Stop.Joined
import Derived.SevenTiedAt
import Derived.ProofKit
import Derived.LaidMore
namespace Go.Proofs.YthdbdpfgccipdaaDoor
open Go.RowKit Hach Num
open Go.ChangeShapes Go.WideShapes Go.ChangeAt Go.WideMaps Go.WideElems
open Go.ChangeMaps (open_string shut_string)

theorem bytes_open {H : Type} {enc : TypeId × Value → H} {W : World} {fuel : Nat} {A : Option Addr} {n c : Nat} {x : DataW H × List MemPlace} (h : DataW.trod enc Tryd.prog W 0 (fun _ => true) true fuel 31 (Value.slice A n c).cells.toList = some x) :
    ∃ xs, RowU W W.heap.size A n xs ∧ n < 9223372036854775808 ∧ ∀ v ∈ xs, 0 ≤ v ∧ v ≤ 255 := by
  rcases open_ints Tryd.underlying31 Tryd.underlying5 (show Tryd.prog.cellsOf 5 = 1 by kernel_rfl) h with ⟨hcs, _⟩ | ⟨a, len, cap, zs, hcs, _, hl, hm, hz, _, hcell, hws⟩
  · simp [Value.cells] at hcs
    obtain ⟨rfl, rfl, rfl⟩ := hcs
    exact ⟨[], ⟨rfl, fun h => absurd h (by omega)⟩, by decide, fun v hv => by cases hv⟩
  · simp [Value.cells] at hcs
    obtain ⟨rfl, rfl, rfl⟩ := hcs
    have hz' : zs.length = c := by simpa using hz
    have hm' : c < 9223372036854775808 := by simp only [maxLen] at hm; omega
    refine ⟨zs.take n, ⟨by rw [List.length_take, hz']; omega, fun h0 => ?_⟩, by omega, fun v hv => ?_⟩
    · obtain ⟨b, o, spot⟩ := a
      have hspot : spot = none := by simpa [Addr.add] using World.cell?_spot (hcell 0 (by omega))
      subst hspot
      have hb : b < W.heap.size := World.block_lt_of_cell? W _ (hcell 0 (by omega))
      refine ⟨b, o, rfl, hb, fun j hj => ?_⟩
      have := hcell j (by omega)
      rw [Go.WideShapes.add_plain] at this
      rw [this]
      simp [List.getD, List.getElem?_take, hj]
    · have := bounds_u8 (hws v (List.mem_of_mem_take hv))
      omega

theorem wireReads_met (os : Os) (args : Array Value) : laidMetH Tryd.prog Laids ((World.doorLaid Tryd.prog 400 os).forCall (fun _ _ => 0) ⟨#[], args, []⟩).memory :=
  laidMetH_of_parts3 (fuel := 8) (laidMet_of_run' 8 (by kernel_rfl) (by kernel_rfl)) (by kernel_rfl) (by kernel_rfl)
set_option maxRecDepth 100000 in
theorem wireReads_lifted (os : Os) (started : os.Started) (H : Type) (enc : TypeId × Value → H) :
    ReturnsInHanded {} Tryd.checked os 4 .any (fun w args => (Rows.wireReadsSpec.pre enc Tryd.prog Tryd.f4 [] false w args ∧ laidMetH Tryd.prog Laids w) ∧ sizedMet enc Tryd.prog Tryd.f4 (OpenSpec.ofChange Rows.wireReadsSpec) false w args) (Rows.wireReadsSpec.post enc Tryd.prog Tryd.f4 false true false false) := by
  refine handed_shaped (C := Tryd.checked) (X := fun w _ => laidMetH Tryd.prog Laids w) (fun _ _ _ hh h => h.of_heap hh) own started (by kernel_rfl) Tryd.func4
    (ChangeSpec.witness_shaped (enc := enc) (C := Tryd.checked) (os := os) (X := fun w _ => laidMetH Tryd.prog Laids w) false (World.doorLaid Tryd.prog 400 os) #[.string ByteArray.empty, .slice none 0 0] 8 rfl (World.shaped_of_RefB (by kernel_rfl) (by kernel_rfl)) (by kernel_rfl) (by kernel_rfl) (by kernel_rfl) (wireReads_met os _)) ?_
  intro W base args ds gs before hval0 hW hSh hL
  have HT := tabs_of hL hSh
  have hval : ∀ (j : Nat) t v, Tryd.f4.params[j]? = some t → args[j]? = some v → Value.okWide Tryd.prog W .any base t v := hval0
  have hW' := hW
  obtain ⟨p, q, hA0, hV, rfl, hfz, hnd⟩ := hW
  have hA : DataW.TrodAll enc Tryd.prog W 0 (fun _ => true) true Tryd.f4.params.toList args.toList ds p := hA0
  rw [Tryd.params4] at hA hval
  have hAk := hA
  obtain ⟨v0, vs0, d0, ds0, p0, q0, hargs, rfl, hp0, h0, r0⟩ := trodAll_cons hA
  obtain ⟨v1, vs1, d1, ds1, p1, q1, rfl, rfl, hp1, h1, r1⟩ := trodAll_cons r0
  obtain ⟨rfl, rfl, hpn⟩ := trodAll_nil r1
  obtain rfl : args = #[v0, v1] := by cases args; simp_all
  obtain ⟨rfl, rfl⟩ := trodVars_none hV
  obtain ⟨a0, rfl, rfl, _, w0⟩ := open_string Tryd.underlying9 (hval 0 9 v0 rfl rfl) h0
  obtain ⟨A1, n1, c1, rfl⟩ := okWide_slice Tryd.underlying31 (hval 1 31 v1 rfl rfl)
  obtain ⟨fuel1, hf1⟩ := h1
  obtain ⟨xs1, hR1, hn1, hV1⟩ := bytes_open hf1
  clear hA0 hval0
  simp only [List.append_nil] at hW'
  refine (WireReads_any a0 A1 n1 c1 xs1 W HT w0 hR1 hn1 hV1).mono fun e W' ⟨he, hg⟩ => ?_
  subst he
  exact ⟨_, rfl, _, _, _, [], p, [], hW', trodAll_cons_mk (shut_bool Tryd.underlying4 _) trodAll_mk0, args_back laid hg _ _ _ _ (by rw [Tryd.params4]; kernel_rfl) hAk (fun x hx => by simpa using hW'.lt x (by simpa using hx)), rfl, hg.frame _, fun h => by cases h⟩

theorem wireReads_holds : Rows.WireReadsSaid :=
  OpenClaim.holds_of_wide 4 Tryd.f4 rfl rfl rfl rfl rfl rfl rfl ⟨rfl, rfl, rfl, rfl, rfl⟩ rfl rfl rfl rfl rfl (by kernel_rfl) Tryd.func4 (by kernel_rfl)
    (of_decide_eq_true (by kernel_rfl)) (by unfold Func.isWrapper; first | (rw [if_pos (by decide +kernel)]; kernel_rfl) | (rw [if_neg (by decide +kernel)]; exact ⟨rfl, rfl⟩))
    (fun os started H enc _ => wireReads_lifted os started H enc)
#print axioms wireReads_holds
theorem wireReadsCard_holds : Rows.WireReadsCardSaid :=
  Claim7.holds_tied_plain_at .later [] [.data, .data, .data, .sentinel, .sentinel] true _ true
    wireReads_holds (fun _ h => by cases h) (by kernel_rfl) (fun _ h => by cases h) wireReads_row_tie rfl ⟨rfl, rfl⟩ (by kernel_rfl) rfl
    (fun f fn hf hfn => by
      obtain rfl : f = 4 := Option.some.inj ((show Tryd.prog.funcNamed "hachure/hachurelaw02.WireReads" = some 4 by kernel_rfl).symm.trans hf) |>.symm
      obtain rfl : fn = Tryd.f4 := (Option.some.inj (Tryd.func4.symm.trans hfn)).symm
      exact ⟨by kernel_rfl, fun j t ht => by
        have hall : (Tryd.f4.params.all fun t => !Tryd.prog.wantsStandIn t) = true := by kernel_rfl
        have hm := Array.mem_of_getElem? ht
        have := (Array.all_eq_true_iff_forall_mem.1 hall) t hm
        have h2 : Tryd.prog.wantsStandIn t = false := by simpa using this
        exact h2⟩)
    (by kernel_rfl)
#print axioms wireReadsCard_holds
end Go.Proofs.YthdbdpfgccipdaaDoor
