/- The walk of the statement WireWrites: at every input the call returns true. -/
import Derived.Test.YthdbdpfgccipdaaDoorVh
namespace Go.Proofs.YthdbdpfgccipdaaDoor
open Go.RowKit Hach Num

theorem OwnT.base_ {w : World} {base base' : Nat} {v : Value} {xs : List (List UInt8)} (h : OwnT w base v xs) (hb : base' ≤ base) : OwnT w base' v xs := by
  refine ⟨h.1, ?_⟩
  rcases h.2 with hn | ⟨g, cap, cur, e, hg, r⟩
  · exact .inl hn
  · exact .inr ⟨g, cap, cur, e, Nat.le_trans hb hg, r⟩
def ownSPT (base : Nat) (l : List (List UInt8)) : SP := ⟨fun v W => OwnT W base v l, fun h hE => h.ext hE⟩
theorem RowI.take {w : World} {B : Nat} {A : Option Addr} {n : Nat} {xs : List Int} (h : RowI w B A n xs) {m : Nat} (hm : m ≤ n) : RowI w B A m (xs.take m) :=
  ⟨by rw [List.length_take, h.1]; omega, fun h0 => by
    obtain ⟨b, o, e, hb, hc⟩ := h.2 (by omega)
    refine ⟨b, o, e, hb, fun j hj => ?_⟩
    rw [hc j (by omega)]
    congr 2
    simp only [List.getD]
    rw [List.getElem?_take_of_lt hj]⟩
theorem flat_small {α : Type} (g : α → List UInt8) (K : Nat) : ∀ (l : List α), (∀ x ∈ l, (g x).length ≤ K) → (l.map g).flatten.length ≤ K * l.length
  | [], _ => by simp
  | x :: l, h => by
    have h1 := h x List.mem_cons_self
    have h2 := flat_small g K l fun y hy => h y (List.mem_cons_of_mem _ hy)
    simp only [List.map_cons, List.flatten_cons, List.length_append, List.length_cons, Nat.mul_add, Nat.mul_one]
    omega
theorem wrInt_len {v : Int} (h : InI v) : (wrInt v).length ≤ 22 := by
  have := (itoa_size h).1
  unfold wrInt; simp only [List.length_append, List.length_singleton]; omega
theorem wrText_len {s : List UInt8} (h : s.length ≤ 100) : (wrText s).length ≤ 122 := by
  have := (itoa_size (v := (s.length : Int)) ⟨by omega, by omega⟩).1
  unfold wrText; simp only [List.length_append, List.length_cons]; omega
theorem cutL_len (ts : List (List UInt8)) : (cutL ts).length ≤ 20 := by unfold cutL; simp; omega
theorem cutL_small {ts : List (List UInt8)} : ∀ s ∈ cutL ts, s.length ≤ 100 := by
  intro s hs
  unfold cutL at hs
  obtain ⟨x, _, rfl⟩ := List.mem_map.1 hs
  simp; omega

set_option maxRecDepth 100000 in
set_option maxHeartbeats 1000000 in
theorem WireWrites_any (A B : Option Addr) (n c m d : Nat) (xs : List Int) (ts : List (List UInt8)) (w : World) (hT : Tabs w) (hX : RowI w w.heap.size A n xs) (hn : n < 9223372036854775808) (hnc : n ≤ c) (hV : ∀ x ∈ xs, InI x)
    (hY : RowT w w.heap.size B m ts) (hm : m < 9223372036854775808) (hsm : ∀ k, (ts.getD k []).length < 9223372036854775808) :
    Calls Tryd.prog 3 #[.slice A n c, .slice B m d] w fun e w' => e = .returned (.bool true) ∧ Ext w w' := by
  go_enter Tryd.func3, Tryd.ntmps3
  go_wp2_with fail
  refine (sanity_any w hT).mono ?_
  rintro e w1 ⟨rfl, hE1⟩
  have hX1 := hX.ext hE1
  have hY1 := hY.ext hE1
  have hT1 := hT.ext hE1
  obtain ⟨k, hk, hkn, hk40⟩ : ∃ k : Nat, min (n : Int) 40 = k ∧ k ≤ n ∧ k ≤ 40 := ⟨min n 40, by omega, by omega, by omega⟩
  have hkc : (k : Int) ≤ c := by omega
  have hX2 := hX1.take hkn
  have hV2 : ∀ x ∈ xs.take k, InI x := fun x hx => hV x (List.mem_of_mem_take hx)
  have hx2l : (xs.take k).length = k := hX2.1
  generalize xs.take k = xs' at hX2 hV2 hx2l
  clear hX1 hX hV
  go_wp2_with fail
  apply wp_region_seq (l := [_, _, _, _, _, _, _, _, _]) (t := []) [some 11, some 12, some 13, some 14, some 15, some 16, some 17, some 0, some 1] [[], [], [1], [2], [0, 3], [], [5], [4], [6]] [] [eqv _, eqv _, eqv _, eqv _, eqv _, eqv _, (ownSPT w1.heap.size (cutL ts)), eqv _, (ownSPT w1.heap.size (cutL ts))] (by kernel_rfl) (by kernel_rfl) ⟨?o0, ?o1, ?o2, ?o3, ?o4, ?o5, ?o6, ?o7, ?o8, trivial⟩ ?last
  case o0 => -- Op.move (Operand.tmp 0)
    intro xv W hE _
    simp only [putD, List.foldl_nil, List.getD_cons_zero]
    refine OpGoal.plain ?_
    go_wp2_with fail
    exact ⟨rfl, Ext.refl _, rfl⟩
  case o1 => -- Op.move (Operand.tmp 0)
    intro xv W hE _
    simp only [putD, List.foldl_nil, List.getD_cons_zero, List.getD_cons_succ]
    refine OpGoal.plain ?_
    go_wp2_with fail
    exact ⟨rfl, Ext.refl _, rfl⟩
  case o2 => -- Op.call { callee := Callee.builtin Builtin.len, args := #[Operand.tmp 12], argTy
    intro xv W hE hp
    have r1 : xv 1 = _ := hp.1
    clear hp
    simp only [putD, List.foldl_nil, List.foldl_cons, List.getD_cons_zero, List.getD_cons_succ, Act.put, List.setIfInBounds_toArray, List.set_cons_zero, List.set_cons_succ]
    refine OpGoal.plain ?_
    go_wp2_with fail
    exact ⟨rfl, Ext.refl _, rfl⟩
  case o3 => -- Op.call { callee := Callee.builtin Builtin.min, args := #[Operand.tmp 13, Operan
    intro xv W hE hp
    have r2 : xv 2 = _ := hp.1
    clear hp
    simp only [putD, List.foldl_nil, List.foldl_cons, List.getD_cons_zero, List.getD_cons_succ, Act.put, List.setIfInBounds_toArray, List.set_cons_zero, List.set_cons_succ]
    refine OpGoal.plain ?_
    go_wp2_with fail
    exact ⟨rfl, Ext.refl _, rfl⟩
  case o4 => -- Op.slice 22 (Operand.tmp 11) none (some (Operand.tmp 14)) none
    intro xv W hE hp
    have r0 : xv 0 = _ := hp.1
    have r3 : xv 3 = _ := hp.2.1
    clear hp
    simp only [putD, List.foldl_nil, List.foldl_cons, List.getD_cons_zero, List.getD_cons_succ, Act.put, List.setIfInBounds_toArray, List.set_cons_zero, List.set_cons_succ]
    refine OpGoal.plain ?_
    go_wp2_with fail
    exact ⟨rfl, Ext.refl _, rfl⟩
  case o5 => -- Op.move (Operand.tmp 1)
    intro xv W hE _
    simp only [putD, List.foldl_nil, List.getD_cons_zero, List.getD_cons_succ]
    refine OpGoal.plain ?_
    go_wp2_with fail
    exact ⟨rfl, Ext.refl _, rfl⟩
  case o6 => -- Op.call { callee := Callee.value (Operand.func 11), args := #[Operand.tmp 16], a
    intro xv W hE hp
    have r5 : xv 5 = _ := hp.1
    clear hp
    simp only [putD, List.foldl_nil, List.foldl_cons, List.getD_cons_zero, List.getD_cons_succ, Act.put, List.setIfInBounds_toArray, List.set_cons_zero, List.set_cons_succ]
    refine OpGoal.plain ?_
    go_wp2_with fail
    refine (cutl_any B m d ts W (hY1.ext ((Ext.drew w1).trans hE)) hm hsm).mono ?_
    rintro e w' ⟨v, rfl, hO, hE2⟩
    go_wp2_with fail
    exact ⟨rfl, hE2, hO.base_ (by have := hE.sz; simp at this; omega)⟩
  case o7 => -- Op.assign (Operand.tmp 15)
    intro xv W hE hp
    have r4 : xv 4 = _ := hp.1
    clear hp
    simp only [putD, List.foldl_nil, List.foldl_cons, List.getD_cons_zero, List.getD_cons_succ, Act.put, List.setIfInBounds_toArray, List.set_cons_zero, List.set_cons_succ]
    refine OpGoal.plain ?_
    go_wp2_with fail
    exact ⟨rfl, Ext.refl _, rfl⟩
  case o8 => -- Op.assign (Operand.tmp 17)
    intro xv W hE hp
    obtain r6 := hp.1
    clear hp
    simp only [putD, List.foldl_nil, List.foldl_cons, List.getD_cons_zero, List.getD_cons_succ, Act.put, List.setIfInBounds_toArray, List.set_cons_zero, List.set_cons_succ]
    refine OpGoal.plain ?_
    go_wp2_with fail
    exact ⟨rfl, Ext.refl _, r6⟩
  case last =>
    intro xv W hE hp
    have r0 : xv 0 = _ := hp.1
    have r1 : xv 1 = _ := hp.2.1
    have r2 : xv 2 = _ := hp.2.2.1
    have r3 : xv 3 = _ := hp.2.2.2.1
    have r4 : xv 4 = _ := hp.2.2.2.2.1
    have r5 : xv 5 = _ := hp.2.2.2.2.2.1
    obtain r6 := hp.2.2.2.2.2.2.1
    have r7 : xv 7 = _ := hp.2.2.2.2.2.2.2.1
    obtain r8 := hp.2.2.2.2.2.2.2.2.1
    clear hp
    simp only [putD, List.foldl_nil, List.foldl_cons, List.getD_cons_zero, List.getD_cons_succ, Act.put, List.length_cons, List.length_nil, List.range_succ, List.range_zero, List.nil_append, List.cons_append, List.setIfInBounds_toArray, List.set_cons_zero, List.set_cons_succ]
    have r7' : xv 7 = .slice A k c := r7
    have r8' : OwnT W w1.heap.size (xv 8) (cutL ts) := r8
    obtain ⟨B2, d2, e8, hR2⟩ := r8'.form
    rw [r7', e8]
    have hW1 : Ext w1 W := (Ext.drew w1).trans hE
    have hTW := hT1.ext hW1
    have hXW := hX2.ext hW1
    have hEW := hE1.trans hW1
    have hcl := cutL_len ts
    have hcs := cutL_small (ts := ts)
    clear r0 r1 r2 r3 r4 r5 r6 r7 r7' r8 r8' e8 hX2 hY1 hY
    generalize cutL ts = l at hR2 hcl hcs
    obtain ⟨q, hq⟩ : ∃ q, l.length = q := ⟨_, rfl⟩
    have HQ := Lib.hid hq
    rw [hq] at hR2 hcl
    rw [hq]
    clear hq
    go_wp2_with fail
    go_loopw [20] (fun vi wr => ∃ j : Nat, j ≤ k ∧ vi = .int .i64 j ∧ Ext W wr) (fun vi _ => k - (intOf vi).toNat)
    case atStart => exact ⟨0, Nat.zero_le _, rfl, Ext.refl _⟩
    case round =>
      obtain ⟨j, hj, rfl, hEr⟩ := hrel
      by_cases hlt : j < k
      · obtain ⟨b, o, rfl, hbl, hc0⟩ := hXW.2 (by omega)
        have hc : wr.cell? ⟨b, o + j, none⟩ = some (itv (xs'.getD j 0)) := (hEr.old (p := ⟨b, o + j, none⟩) hbl).trans (hc0 j hlt)
        have hv := hV2 (xs'.getD j 0) (by simp [List.getD, List.getElem?_eq_getElem (show j < xs'.length by omega)])
        clear hc0
        generalize xs'.getD j 0 = x at hc hv
        unfold itv at hc
        have hTr := hTW.ext hEr
        go_wp2_with fail
        refine (wInt_any x hv wr hTr).mono ?_
        rintro e wa ⟨rfl, hEa⟩
        go_wp2_with fail
        refine (rInt_any x hv wa (hTr.ext hEa)).mono ?_
        rintro e wb ⟨rfl, hEb⟩
        generalize (⟨(wrInt x).toArray⟩ : ByteArray) = iv
        go_wp2_with fail
        go_roundw
        case rel => exact ⟨j + 1, by omega, by go_num, (hEr.trans hEa).trans hEb⟩
        case measure => simp [intOf]; omega
      · obtain rfl : j = k := by omega
        obtain ⟨w5, rfl⟩ : ∃ w5, w5 = wr := ⟨_, rfl⟩
        have hT5 := hTW.ext hEr
        have hR5 := hR2.ext hEr
        have hX5 := hXW.ext hEr
        have hE5 := hEW.trans hEr
        clear hR2 hXW
        go_wp2_with fail
        go_loopw [32] (fun vi wr => ∃ i : Nat, i ≤ q ∧ vi = .int .i64 i ∧ Ext w5 wr) (fun vi _ => q - (intOf vi).toNat)
        case atStart => exact ⟨0, Nat.zero_le _, rfl, Ext.refl _⟩
        case round =>
          obtain ⟨i, hi, rfl, hEs⟩ := hrel
          by_cases hlt2 : i < q
          · obtain ⟨b, o, rfl, hbl, hc0⟩ := hR5.2 (by omega)
            have hc : wr.cell? ⟨b, o + i, none⟩ = some (txv (l.getD i [])) := (hEs.old (p := ⟨b, o + i, none⟩) hbl).trans (hc0 i hlt2)
            have hv := hcs (l.getD i []) (by have hil : i < l.length := by rw [HQ.out]; exact hlt2
                                             simp [List.getD, List.getElem?_eq_getElem hil])
            clear hc0
            generalize l.getD i [] = s at hc hv
            unfold txv at hc
            have hTr := hT5.ext hEs
            go_wp2_with fail
            refine (wText_any s (by omega) wr hTr).mono ?_
            rintro e wa ⟨rfl, hEa⟩
            go_wp2_with fail
            refine (rText_any s (by omega) wa (hTr.ext hEa)).mono ?_
            rintro e wb ⟨rfl, hEb⟩
            generalize (⟨(wrText s).toArray⟩ : ByteArray) = iv
            go_wp2_with fail
            go_roundw
            case rel => exact ⟨i + 1, by omega, by go_num, (hEs.trans hEa).trans hEb⟩
            case measure => simp [intOf]; omega
          · obtain rfl : i = q := by omega
            have hT6 := hT5.ext hEs
            have hR6 := hR5.ext hEs
            have hX6 := hX5.ext hEs
            have hb1 := flat_small wrInt 22 xs' (fun x hx => wrInt_len (hV2 x hx))
            have hb2 := flat_small wrText 122 l (fun x hx => wrText_len (hcs x hx))
            rw [hx2l] at hb1
            rw [HQ.out] at hb2
            have hVT : ∀ x ∈ l, ShortT x := fun x hx => by have := hcs x hx; unfold ShortT; omega
            have HB1 := Lib.hid hb1
            have HB2 := Lib.hid hb2
            clear hb1 hb2
            go_wp2_with fail
            refine (wlist_I A j c xs' wr hX6 (by omega) hV2 (by have := HB1.out; omega) hT6).mono ?_
            rintro e wa ⟨rfl, hEa⟩
            go_wp2_with fail
            refine (rlist_I A j c xs' wa (hX6.ext hEa) (by omega) hV2 (by have := HB1.out; omega) (hT6.ext hEa)).mono ?_
            rintro e wb ⟨rfl, hEb⟩
            generalize (⟨(wrList wrInt xs').toArray⟩ : ByteArray) = iv
            have hEab := hEa.trans hEb
            go_wp2_with fail
            refine (wlist_T B2 i d2 l wb (hR6.ext hEab) (by omega) hVT (by have := HB2.out; omega) (hT6.ext hEab)).mono ?_
            rintro e wc ⟨rfl, hEc⟩
            go_wp2_with fail
            refine (rlist_T B2 i d2 l wc (hR6.ext (hEab.trans hEc)) (by omega) hVT (by have := HB2.out; omega) (hT6.ext (hEab.trans hEc))).mono ?_
            rintro e wd ⟨rfl, hEd⟩
            generalize (⟨(wrList wrText l).toArray⟩ : ByteArray) = jv
            go_wp2_with fail
            go_ret
            exact ⟨rfl, (((hE5.trans hEs).trans hEab).trans hEc).trans hEd⟩
end Go.Proofs.YthdbdpfgccipdaaDoor
