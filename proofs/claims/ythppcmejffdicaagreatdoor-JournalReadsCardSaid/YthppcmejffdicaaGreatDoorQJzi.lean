/- (Under way) strings.makeGenericReplacer, at the four strings of the replacer that shows. -/
import Derived.Test.YthppcmejffdicaaGreatDoorQJzh

set_option linter.unusedSimpArgs false
set_option linter.unusedVariables false
namespace Go.Proofs.YthppcmejffdicaaGreatDoor
open Go.RowKit Hach Num Jn

theorem infoM : (Tryz.prog.info? 131).map (·.size) = some 256 := by kernel_rfl
theorem load_arr {w : World} {g : Nat} {tab : Value} {sz : Int} {m : Nat → Int} {ops : Array Oper} {rest : List Oper} {op : Oper} {a : Act} {Q : Exit → Act → World → Prop} (hG : GR w g tab sz m) (hgd : op.guard = none) (x : Operand) (ho : op.op = .load 131 x)
    (hx : a.eval x = .pointer (some ⟨g, 6, none⟩)) (h : wpList Tryz.prog ops Q rest (a.put op.dst (.agg (arr m).toArray)) w) : wpList Tryz.prog ops Q (op :: rest) a w :=
  wpList_load_mid hgd 131 x ho g 6 hx (arr m) _ hG.range Tryz.underlying131 rfl (by rw [infoM, arr_length]) h
/- which bytes the keys have: k keys, and j bytes of the next -/
def mp (k j i : Nat) : Int := if k = 0 then (if j = 0 then 0 else if i = 92 then 1 else 0) else if k = 1 ∧ j ≤ 1 then (if i = 92 then 1 else 0) else if i = 92 ∨ i = 110 then 1 else 0
/- how many of them are below k -/
def smp (k : Nat) : Int := (if 92 < k then 1 else 0) + (if 110 < k then 1 else 0)
theorem smp_step (k : Nat) : smp (k + 1) = smp k + mp 2 0 k := by
  unfold smp mp
  rw [if_neg (show ¬ 2 = 0 by omega), if_neg (show ¬ (2 = 1 ∧ 0 ≤ 1) by omega)]
  split <;> split <;> split <;> split <;> split <;> omega
theorem smp_le (k : Nat) : 0 ≤ smp k ∧ smp k ≤ 2 := by unfold smp; split <;> split <;> omega
theorem mp_le (k : Nat) : 0 ≤ mp 2 0 k ∧ mp 2 0 k ≤ 1 := by
  unfold mp
  rw [if_neg (show ¬ 2 = 0 by omega), if_neg (show ¬ (2 = 1 ∧ 0 ≤ 1) by omega)]
  split <;> omega

theorem mp_zero {k : Nat} (h : mp 2 0 k = 0) : fmp k = 2 ∧ smp (k + 1) = smp k := by
  refine ⟨?_, by rw [smp_step, h]; omega⟩
  unfold mp at h
  rw [if_neg (show ¬ 2 = 0 by omega), if_neg (show ¬ (2 = 1 ∧ 0 ≤ 1) by omega)] at h
  unfold fmp
  split at h
  · omega
  · rename_i hn; rw [if_neg (by omega), if_neg (by omega)]
theorem mp_one {k : Nat} (h : mp 2 0 k = 1) : fmp k = smp k ∧ smp (k + 1) = smp k + 1 := by
  refine ⟨?_, by rw [smp_step, h]⟩
  unfold mp at h
  rw [if_neg (show ¬ 2 = 0 by omega), if_neg (show ¬ (2 = 1 ∧ 0 ≤ 1) by omega)] at h
  split at h
  · rename_i hk; rcases hk with rfl | rfl <;> decide
  · omega
theorem map_next (k : Nat) (x : Int) (hx : x = fmp k) (i : Nat) : (if i = k then x else if i < k then fmp i else mp 2 0 i) = if i < k + 1 then fmp i else mp 2 0 i := by
  by_cases h : i = k
  · subst h; rw [if_pos rfl, if_pos (by omega), hx]
  · rw [if_neg h]
    by_cases h2 : i < k
    · rw [if_pos h2, if_pos (by omega)]
    · rw [if_neg h2, if_neg (by omega)]

/- the replacer that shows, in memory -/
def Gen (w : World) (g : Nat) : Prop := ∃ t a t1 b c, GR w g (.slice (some ⟨t, 0, none⟩) 2 2) 2 fmp ∧ TwoP w t (some ⟨a, 0, none⟩) none ∧ Nd w a ⟨#[]⟩ 0 ⟨#[]⟩ none (.slice (some ⟨t1, 0, none⟩) 2 2) ∧ TwoP w t1 (some ⟨b, 0, none⟩) (some ⟨c, 0, none⟩) ∧
  Nd w b ⟨#[92]⟩ 4 ⟨#[]⟩ none (.slice none 0 0) ∧ Nd w c ⟨#[10]⟩ 2 ⟨#[]⟩ none (.slice none 0 0)
/- between the two keys -/
def GSt (B : Nat) (w : World) (g t : Nat) : Nat → Prop
  | 0 => GR w g (.slice (some ⟨t, 0, none⟩) 2 2) 2 fmp ∧ TwoP w t none none
  | 1 => ∃ a b, B ≤ a ∧ a ≠ b ∧ GR w g (.slice (some ⟨t, 0, none⟩) 2 2) 2 fmp ∧ TwoP w t (some ⟨a, 0, none⟩) none ∧ Nd w a ⟨#[]⟩ 0 ⟨#[92]⟩ (some ⟨b, 0, none⟩) (.slice none 0 0) ∧ Nd w b ⟨#[92]⟩ 4 ⟨#[]⟩ none (.slice none 0 0)
  | _ => Gen w g
theorem tab_world {w V : World} {g : Nat} {sz : Int} {m : Nat → Int} (hE : Ext w V) (hG : GR V g (.slice none 0 0) sz m) (hg : w.heap.size ≤ g) (T : TypeId) :
    GR ((V.setCell ⟨g, 4, none⟩ (.slice (some ⟨V.heap.size, 0, none⟩) 2 2)).alloc (.cells #[.pointer none, .pointer none] T)) g (.slice (some ⟨V.heap.size, 0, none⟩) 2 2) sz m ∧
    TwoP ((V.setCell ⟨g, 4, none⟩ (.slice (some ⟨V.heap.size, 0, none⟩) 2 2)).alloc (.cells #[.pointer none, .pointer none] T)) V.heap.size none none ∧
    Ext w ((V.setCell ⟨g, 4, none⟩ (.slice (some ⟨V.heap.size, 0, none⟩) 2 2)).alloc (.cells #[.pointer none, .pointer none] T)) := by
  have s1 := setCell_size V ⟨g, 4, none⟩ (.slice (some ⟨V.heap.size, 0, none⟩) 2 2)
  have g1 := hG.setTab (.slice (some ⟨V.heap.size, 0, none⟩) 2 2)
  have e0 : Below w.heap.size w (V.setCell ⟨g, 4, none⟩ (.slice (some ⟨V.heap.size, 0, none⟩) 2 2)) := Below.setCell hE hg _
  have e1 := Ext.alloc (V.setCell ⟨g, 4, none⟩ (.slice (some ⟨V.heap.size, 0, none⟩) 2 2)) (.cells #[.pointer none, .pointer none] T)
  have hp : ((V.setCell ⟨g, 4, none⟩ (.slice (some ⟨V.heap.size, 0, none⟩) 2 2)).alloc (.cells #[.pointer none, .pointer none] T)).heap[(V.setCell ⟨g, 4, none⟩ (.slice (some ⟨V.heap.size, 0, none⟩) 2 2)).heap.size]? = some (.cells #[.pointer none, .pointer none] T) := Array.getElem?_push_size
  rw [s1] at hp
  exact ⟨g1.ext e1, ⟨T, hp⟩, Ext.trans e0 e1⟩

set_option maxRecDepth 100000 in
set_option maxHeartbeats 4000000 in
theorem mkgen_any (o cap : Nat) (w : World) (hF : Four w o ⟨#[92, 92]⟩ ⟨#[92]⟩ ⟨#[92, 110]⟩ ⟨#[10]⟩) :
    Calls Tryz.prog 100 #[.slice (some ⟨o, 0, none⟩) 4 cap] w fun e w' => ∃ g, e = .returned (.pointer (some ⟨g, 0, none⟩)) ∧ Ext w w' ∧ w.heap.size ≤ g ∧ Gen w' g := by
  obtain ⟨ho, h0, h1, h2, h3⟩ := hF
  have q0 : ∀ h : 0 < (⟨#[92, 92]⟩ : ByteArray).size, (⟨#[92, 92]⟩ : ByteArray)[0]'h = 92 := fun _ => rfl
  have q1 : ∀ h : 1 < (⟨#[92, 92]⟩ : ByteArray).size, (⟨#[92, 92]⟩ : ByteArray)[1]'h = 92 := fun _ => rfl
  have q2 : ∀ h : 0 < (⟨#[92, 110]⟩ : ByteArray).size, (⟨#[92, 110]⟩ : ByteArray)[0]'h = 92 := fun _ => rfl
  have q3 : ∀ h : 1 < (⟨#[92, 110]⟩ : ByteArray).size, (⟨#[92, 110]⟩ : ByteArray)[1]'h = 110 := fun _ => rfl
  go_enter Tryz.func100, Tryz.ntmps100
  go_wp2_with fail
  have hG := GR.new w
  have hE := Ext.alloc w (.cells Tryz.zeroCells169 169)
  have hsz : w.heap.size < (w.alloc (.cells Tryz.zeroCells169 169)).heap.size := hG.lt
  generalize w.alloc (.cells Tryz.zeroCells169 169) = W0 at hG hE hsz ⊢
  go_loopw [4] (fun i wr => ∃ k : Nat, k ≤ 2 ∧ i = .int .i64 (2 * k : Nat) ∧ Ext w wr ∧ GR wr w.heap.size (.slice none 0 0) 0 (mp k 0)) (fun i _ => 4 - (intOf i).toNat)
  case atStart => exact ⟨0, by omega, rfl, hE, hG.congr fun i _ => rfl⟩
  case round =>
    rename World => wo
    obtain ⟨k, hk, rfl, hEr, hGr⟩ := hrel
    have i0 := (hEr.old (p := ⟨o, 0, none⟩) ho).trans h0
    have i2 := (hEr.old (p := ⟨o, 2, none⟩) ho).trans h2
    by_cases k0 : k = 0
    · subst k0
      go_wp2_with fail
      go_loopw [6] (fun jv w2 => ∃ j : Nat, j ≤ 2 ∧ jv = .int .i64 j ∧ Ext w w2 ∧ GR w2 w.heap.size (.slice none 0 0) 0 (mp 0 j)) (fun j _ => 2 - (intOf j).toNat)
      case atStart => exact ⟨0, by omega, rfl, hEr, hGr⟩
      case round =>
        rename World => wi
        obtain ⟨j, hj, rfl, hE2, hG2⟩ := hrel
        by_cases j0 : j = 0
        · subst j0
          go_wp2_with fail
          apply wp_region_seq (l := [_, _, _, _, _, _, _]) (t := [_]) [some 30, some 31, some 32, some 33, some 34, some 35, some 36, none] [[], [], [], [1, 2], [0], [4], [3, 5], [6]] [7, 7, 7, 7, 5, 6, 7] [eqv _, eqv _, eqv _, eqv _, eqv _, eqv _, eqv _] (by kernel_rfl) (by kernel_rfl) ⟨?o0, ?o1, ?o2, ?o3, ?o4, ?o5, ?o6, trivial⟩ ?last
          case o0 => -- Op.move (Operand.tmp 3)
            intro xv V hE _
            simp only [putD, List.foldl_nil, List.getD_cons_zero]
            refine OpGoal.plain ?_
            go_wp2_with fail
            exact ⟨rfl, Ext.refl _, rfl⟩
          case o1 => -- Op.move (Operand.tmp 5)
            intro xv V hE _
            simp only [putD, List.foldl_nil, List.getD_cons_zero, List.getD_cons_succ]
            refine OpGoal.plain ?_
            go_wp2_with fail
            exact ⟨rfl, Ext.refl _, rfl⟩
          case o2 => -- Op.move (Operand.tmp 6)
            intro xv V hE _
            simp only [putD, List.foldl_nil, List.getD_cons_zero, List.getD_cons_succ]
            refine OpGoal.plain ?_
            go_wp2_with fail
            exact ⟨rfl, Ext.refl _, rfl⟩
          case o3 => -- Op.index 9 (Operand.tmp 31) (Operand.tmp 32)
            intro xv V hE hp
            have r1 : xv 1 = _ := hp.1
            have r2 : xv 2 = _ := hp.2.1
            clear hp
            simp only [putD, List.foldl_nil, List.foldl_cons, List.getD_cons_zero, List.getD_cons_succ, Act.put, List.setIfInBounds_toArray, List.set_cons_zero, List.set_cons_succ]
            refine OpGoal.plain ?_
            go_wp2_with fail
            exact ⟨rfl, Ext.refl _, rfl⟩
          case o4 => -- Op.nilCheck (Operand.tmp 30)
            intro xv V hE hp
            have r0 : xv 0 = _ := hp.1
            clear hp
            simp only [putD, List.foldl_nil, List.foldl_cons, List.getD_cons_zero, List.getD_cons_succ, Act.put, List.setIfInBounds_toArray, List.set_cons_zero, List.set_cons_succ]
            refine OpGoal.plain ?_
            go_wp2_with fail
            exact ⟨rfl, Ext.refl _, rfl⟩
          case o5 => -- Op.fieldAddr 169 (Operand.tmp 34) 2
            intro xv V hE hp
            have r4 : xv 4 = _ := hp.1
            clear hp
            simp only [putD, List.foldl_nil, List.foldl_cons, List.getD_cons_zero, List.getD_cons_succ, Act.put, List.setIfInBounds_toArray, List.set_cons_zero, List.set_cons_succ]
            refine OpGoal.plain ?_
            go_wp2_with fail
            exact ⟨rfl, Ext.refl _, rfl⟩
          case o6 => -- Op.indexAddr 131 (Operand.tmp 35) (Operand.tmp 33)
            intro xv V hE hp
            have r3 : xv 3 = _ := hp.1
            have r5 : xv 5 = _ := hp.2.1
            clear hp
            simp only [putD, List.foldl_nil, List.foldl_cons, List.getD_cons_zero, List.getD_cons_succ, Act.put, List.setIfInBounds_toArray, List.set_cons_zero, List.set_cons_succ]
            refine OpGoal.plain ?_
            go_wp2_with fail
            exact ⟨rfl, Ext.refl _, rfl⟩
          case last =>
            intro xv V hE hp
            have r0 : xv 0 = _ := hp.1
            have r1 : xv 1 = _ := hp.2.1
            have r2 : xv 2 = _ := hp.2.2.1
            have r3 : xv 3 = _ := hp.2.2.2.1
            have r4 : xv 4 = _ := hp.2.2.2.2.1
            have r5 : xv 5 = _ := hp.2.2.2.2.2.1
            have r6 : xv 6 = _ := hp.2.2.2.2.2.2.1
            clear hp
            simp only [putD, List.foldl_nil, List.foldl_cons, List.getD_cons_zero, List.getD_cons_succ, Act.put, List.length_cons, List.length_nil, List.range_succ, List.range_zero, List.nil_append, List.cons_append, List.setIfInBounds_toArray, List.set_cons_zero, List.set_cons_succ]
            have hV : Ext wi V := (Ext.drew wi).trans hE
            have hG3 := hG2.ext hV
            have m1 : V.cell? ⟨w.heap.size, 98, none⟩ = _ := hG3.map (i := 92) (by omega)
            have z1 := hG3.fz 98
            go_wp2_with fail
            go_roundw
            case rel =>
              refine ⟨1, by omega, rfl, Below.setCell (hE2.trans hV) (Nat.le_refl _) _, (hG3.setMap 92 1).congr fun i hi => ?_⟩
              unfold mp; split <;> simp_all
            case measure => simp [intOf]
        · by_cases j1 : j = 1
          · subst j1
            go_wp2_with fail
            apply wp_region_seq (l := [_, _, _, _, _, _, _]) (t := [_]) [some 30, some 31, some 32, some 33, some 34, some 35, some 36, none] [[], [], [], [1, 2], [0], [4], [3, 5], [6]] [7, 7, 7, 7, 5, 6, 7] [eqv _, eqv _, eqv _, eqv _, eqv _, eqv _, eqv _] (by kernel_rfl) (by kernel_rfl) ⟨?o0, ?o1, ?o2, ?o3, ?o4, ?o5, ?o6, trivial⟩ ?last
            case o0 => -- Op.move (Operand.tmp 3)
              intro xv V hE _
              simp only [putD, List.foldl_nil, List.getD_cons_zero]
              refine OpGoal.plain ?_
              go_wp2_with fail
              exact ⟨rfl, Ext.refl _, rfl⟩
            case o1 => -- Op.move (Operand.tmp 5)
              intro xv V hE _
              simp only [putD, List.foldl_nil, List.getD_cons_zero, List.getD_cons_succ]
              refine OpGoal.plain ?_
              go_wp2_with fail
              exact ⟨rfl, Ext.refl _, rfl⟩
            case o2 => -- Op.move (Operand.tmp 6)
              intro xv V hE _
              simp only [putD, List.foldl_nil, List.getD_cons_zero, List.getD_cons_succ]
              refine OpGoal.plain ?_
              go_wp2_with fail
              exact ⟨rfl, Ext.refl _, rfl⟩
            case o3 => -- Op.index 9 (Operand.tmp 31) (Operand.tmp 32)
              intro xv V hE hp
              have r1 : xv 1 = _ := hp.1
              have r2 : xv 2 = _ := hp.2.1
              clear hp
              simp only [putD, List.foldl_nil, List.foldl_cons, List.getD_cons_zero, List.getD_cons_succ, Act.put, List.setIfInBounds_toArray, List.set_cons_zero, List.set_cons_succ]
              refine OpGoal.plain ?_
              go_wp2_with fail
              exact ⟨rfl, Ext.refl _, rfl⟩
            case o4 => -- Op.nilCheck (Operand.tmp 30)
              intro xv V hE hp
              have r0 : xv 0 = _ := hp.1
              clear hp
              simp only [putD, List.foldl_nil, List.foldl_cons, List.getD_cons_zero, List.getD_cons_succ, Act.put, List.setIfInBounds_toArray, List.set_cons_zero, List.set_cons_succ]
              refine OpGoal.plain ?_
              go_wp2_with fail
              exact ⟨rfl, Ext.refl _, rfl⟩
            case o5 => -- Op.fieldAddr 169 (Operand.tmp 34) 2
              intro xv V hE hp
              have r4 : xv 4 = _ := hp.1
              clear hp
              simp only [putD, List.foldl_nil, List.foldl_cons, List.getD_cons_zero, List.getD_cons_succ, Act.put, List.setIfInBounds_toArray, List.set_cons_zero, List.set_cons_succ]
              refine OpGoal.plain ?_
              go_wp2_with fail
              exact ⟨rfl, Ext.refl _, rfl⟩
            case o6 => -- Op.indexAddr 131 (Operand.tmp 35) (Operand.tmp 33)
              intro xv V hE hp
              have r3 : xv 3 = _ := hp.1
              have r5 : xv 5 = _ := hp.2.1
              clear hp
              simp only [putD, List.foldl_nil, List.foldl_cons, List.getD_cons_zero, List.getD_cons_succ, Act.put, List.setIfInBounds_toArray, List.set_cons_zero, List.set_cons_succ]
              refine OpGoal.plain ?_
              go_wp2_with fail
              exact ⟨rfl, Ext.refl _, rfl⟩
            case last =>
              intro xv V hE hp
              have r0 : xv 0 = _ := hp.1
              have r1 : xv 1 = _ := hp.2.1
              have r2 : xv 2 = _ := hp.2.2.1
              have r3 : xv 3 = _ := hp.2.2.2.1
              have r4 : xv 4 = _ := hp.2.2.2.2.1
              have r5 : xv 5 = _ := hp.2.2.2.2.2.1
              have r6 : xv 6 = _ := hp.2.2.2.2.2.2.1
              clear hp
              simp only [putD, List.foldl_nil, List.foldl_cons, List.getD_cons_zero, List.getD_cons_succ, Act.put, List.length_cons, List.length_nil, List.range_succ, List.range_zero, List.nil_append, List.cons_append, List.setIfInBounds_toArray, List.set_cons_zero, List.set_cons_succ]
              have hV : Ext wi V := (Ext.drew wi).trans hE
              have hG3 := hG2.ext hV
              have m1 : V.cell? ⟨w.heap.size, 98, none⟩ = _ := hG3.map (i := 92) (by omega)
              have z1 := hG3.fz 98
              go_wp2_with fail
              go_roundw
              case rel =>
                refine ⟨2, by omega, rfl, Below.setCell (hE2.trans hV) (Nat.le_refl _) _, (hG3.setMap 92 1).congr fun i hi => ?_⟩
                unfold mp; split <;> simp_all
              case measure => simp [intOf]
          · obtain rfl : j = 2 := by omega
            rw [show ((2 : Nat) : Int) = 2 from rfl]
            go_wp2_with fail
            go_roundw
            case rel =>
              exact ⟨1, by omega, rfl, hE2, hG2.congr fun i _ => by unfold mp; simp⟩
            case measure => simp [intOf]
    · by_cases k1 : k = 1
      · subst k1
        go_wp2_with fail
        go_loopw [6] (fun jv w2 => ∃ j : Nat, j ≤ 2 ∧ jv = .int .i64 j ∧ Ext w w2 ∧ GR w2 w.heap.size (.slice none 0 0) 0 (mp 1 j)) (fun j _ => 2 - (intOf j).toNat)
        case atStart => exact ⟨0, by omega, rfl, hEr, hGr⟩
        case round =>
          rename World => wi
          obtain ⟨j, hj, rfl, hE2, hG2⟩ := hrel
          by_cases j0 : j = 0
          · subst j0
            go_wp2_with fail
            apply wp_region_seq (l := [_, _, _, _, _, _, _]) (t := [_]) [some 30, some 31, some 32, some 33, some 34, some 35, some 36, none] [[], [], [], [1, 2], [0], [4], [3, 5], [6]] [7, 7, 7, 7, 5, 6, 7] [eqv _, eqv _, eqv _, eqv _, eqv _, eqv _, eqv _] (by kernel_rfl) (by kernel_rfl) ⟨?o0, ?o1, ?o2, ?o3, ?o4, ?o5, ?o6, trivial⟩ ?last
            case o0 => -- Op.move (Operand.tmp 3)
              intro xv V hE _
              simp only [putD, List.foldl_nil, List.getD_cons_zero]
              refine OpGoal.plain ?_
              go_wp2_with fail
              exact ⟨rfl, Ext.refl _, rfl⟩
            case o1 => -- Op.move (Operand.tmp 5)
              intro xv V hE _
              simp only [putD, List.foldl_nil, List.getD_cons_zero, List.getD_cons_succ]
              refine OpGoal.plain ?_
              go_wp2_with fail
              exact ⟨rfl, Ext.refl _, rfl⟩
            case o2 => -- Op.move (Operand.tmp 6)
              intro xv V hE _
              simp only [putD, List.foldl_nil, List.getD_cons_zero, List.getD_cons_succ]
              refine OpGoal.plain ?_
              go_wp2_with fail
              exact ⟨rfl, Ext.refl _, rfl⟩
            case o3 => -- Op.index 9 (Operand.tmp 31) (Operand.tmp 32)
              intro xv V hE hp
              have r1 : xv 1 = _ := hp.1
              have r2 : xv 2 = _ := hp.2.1
              clear hp
              simp only [putD, List.foldl_nil, List.foldl_cons, List.getD_cons_zero, List.getD_cons_succ, Act.put, List.setIfInBounds_toArray, List.set_cons_zero, List.set_cons_succ]
              refine OpGoal.plain ?_
              go_wp2_with fail
              exact ⟨rfl, Ext.refl _, rfl⟩
            case o4 => -- Op.nilCheck (Operand.tmp 30)
              intro xv V hE hp
              have r0 : xv 0 = _ := hp.1
              clear hp
              simp only [putD, List.foldl_nil, List.foldl_cons, List.getD_cons_zero, List.getD_cons_succ, Act.put, List.setIfInBounds_toArray, List.set_cons_zero, List.set_cons_succ]
              refine OpGoal.plain ?_
              go_wp2_with fail
              exact ⟨rfl, Ext.refl _, rfl⟩
            case o5 => -- Op.fieldAddr 169 (Operand.tmp 34) 2
              intro xv V hE hp
              have r4 : xv 4 = _ := hp.1
              clear hp
              simp only [putD, List.foldl_nil, List.foldl_cons, List.getD_cons_zero, List.getD_cons_succ, Act.put, List.setIfInBounds_toArray, List.set_cons_zero, List.set_cons_succ]
              refine OpGoal.plain ?_
              go_wp2_with fail
              exact ⟨rfl, Ext.refl _, rfl⟩
            case o6 => -- Op.indexAddr 131 (Operand.tmp 35) (Operand.tmp 33)
              intro xv V hE hp
              have r3 : xv 3 = _ := hp.1
              have r5 : xv 5 = _ := hp.2.1
              clear hp
              simp only [putD, List.foldl_nil, List.foldl_cons, List.getD_cons_zero, List.getD_cons_succ, Act.put, List.setIfInBounds_toArray, List.set_cons_zero, List.set_cons_succ]
              refine OpGoal.plain ?_
              go_wp2_with fail
              exact ⟨rfl, Ext.refl _, rfl⟩
            case last =>
              intro xv V hE hp
              have r0 : xv 0 = _ := hp.1
              have r1 : xv 1 = _ := hp.2.1
              have r2 : xv 2 = _ := hp.2.2.1
              have r3 : xv 3 = _ := hp.2.2.2.1
              have r4 : xv 4 = _ := hp.2.2.2.2.1
              have r5 : xv 5 = _ := hp.2.2.2.2.2.1
              have r6 : xv 6 = _ := hp.2.2.2.2.2.2.1
              clear hp
              simp only [putD, List.foldl_nil, List.foldl_cons, List.getD_cons_zero, List.getD_cons_succ, Act.put, List.length_cons, List.length_nil, List.range_succ, List.range_zero, List.nil_append, List.cons_append, List.setIfInBounds_toArray, List.set_cons_zero, List.set_cons_succ]
              have hV : Ext wi V := (Ext.drew wi).trans hE
              have hG3 := hG2.ext hV
              have m1 : V.cell? ⟨w.heap.size, 98, none⟩ = _ := hG3.map (i := 92) (by omega)
              have z1 := hG3.fz 98
              go_wp2_with fail
              go_roundw
              case rel =>
                refine ⟨1, by omega, rfl, Below.setCell (hE2.trans hV) (Nat.le_refl _) _, (hG3.setMap 92 1).congr fun i hi => ?_⟩
                unfold mp; split <;> simp_all
              case measure => simp [intOf]
          · by_cases j1 : j = 1
            · subst j1
              go_wp2_with fail
              apply wp_region_seq (l := [_, _, _, _, _, _, _]) (t := [_]) [some 30, some 31, some 32, some 33, some 34, some 35, some 36, none] [[], [], [], [1, 2], [0], [4], [3, 5], [6]] [7, 7, 7, 7, 5, 6, 7] [eqv _, eqv _, eqv _, eqv _, eqv _, eqv _, eqv _] (by kernel_rfl) (by kernel_rfl) ⟨?o0, ?o1, ?o2, ?o3, ?o4, ?o5, ?o6, trivial⟩ ?last
              case o0 => -- Op.move (Operand.tmp 3)
                intro xv V hE _
                simp only [putD, List.foldl_nil, List.getD_cons_zero]
                refine OpGoal.plain ?_
                go_wp2_with fail
                exact ⟨rfl, Ext.refl _, rfl⟩
              case o1 => -- Op.move (Operand.tmp 5)
                intro xv V hE _
                simp only [putD, List.foldl_nil, List.getD_cons_zero, List.getD_cons_succ]
                refine OpGoal.plain ?_
                go_wp2_with fail
                exact ⟨rfl, Ext.refl _, rfl⟩
              case o2 => -- Op.move (Operand.tmp 6)
                intro xv V hE _
                simp only [putD, List.foldl_nil, List.getD_cons_zero, List.getD_cons_succ]
                refine OpGoal.plain ?_
                go_wp2_with fail
                exact ⟨rfl, Ext.refl _, rfl⟩
              case o3 => -- Op.index 9 (Operand.tmp 31) (Operand.tmp 32)
                intro xv V hE hp
                have r1 : xv 1 = _ := hp.1
                have r2 : xv 2 = _ := hp.2.1
                clear hp
                simp only [putD, List.foldl_nil, List.foldl_cons, List.getD_cons_zero, List.getD_cons_succ, Act.put, List.setIfInBounds_toArray, List.set_cons_zero, List.set_cons_succ]
                refine OpGoal.plain ?_
                go_wp2_with fail
                exact ⟨rfl, Ext.refl _, rfl⟩
              case o4 => -- Op.nilCheck (Operand.tmp 30)
                intro xv V hE hp
                have r0 : xv 0 = _ := hp.1
                clear hp
                simp only [putD, List.foldl_nil, List.foldl_cons, List.getD_cons_zero, List.getD_cons_succ, Act.put, List.setIfInBounds_toArray, List.set_cons_zero, List.set_cons_succ]
                refine OpGoal.plain ?_
                go_wp2_with fail
                exact ⟨rfl, Ext.refl _, rfl⟩
              case o5 => -- Op.fieldAddr 169 (Operand.tmp 34) 2
                intro xv V hE hp
                have r4 : xv 4 = _ := hp.1
                clear hp
                simp only [putD, List.foldl_nil, List.foldl_cons, List.getD_cons_zero, List.getD_cons_succ, Act.put, List.setIfInBounds_toArray, List.set_cons_zero, List.set_cons_succ]
                refine OpGoal.plain ?_
                go_wp2_with fail
                exact ⟨rfl, Ext.refl _, rfl⟩
              case o6 => -- Op.indexAddr 131 (Operand.tmp 35) (Operand.tmp 33)
                intro xv V hE hp
                have r3 : xv 3 = _ := hp.1
                have r5 : xv 5 = _ := hp.2.1
                clear hp
                simp only [putD, List.foldl_nil, List.foldl_cons, List.getD_cons_zero, List.getD_cons_succ, Act.put, List.setIfInBounds_toArray, List.set_cons_zero, List.set_cons_succ]
                refine OpGoal.plain ?_
                go_wp2_with fail
                exact ⟨rfl, Ext.refl _, rfl⟩
              case last =>
                intro xv V hE hp
                have r0 : xv 0 = _ := hp.1
                have r1 : xv 1 = _ := hp.2.1
                have r2 : xv 2 = _ := hp.2.2.1
                have r3 : xv 3 = _ := hp.2.2.2.1
                have r4 : xv 4 = _ := hp.2.2.2.2.1
                have r5 : xv 5 = _ := hp.2.2.2.2.2.1
                have r6 : xv 6 = _ := hp.2.2.2.2.2.2.1
                clear hp
                simp only [putD, List.foldl_nil, List.foldl_cons, List.getD_cons_zero, List.getD_cons_succ, Act.put, List.length_cons, List.length_nil, List.range_succ, List.range_zero, List.nil_append, List.cons_append, List.setIfInBounds_toArray, List.set_cons_zero, List.set_cons_succ]
                have hV : Ext wi V := (Ext.drew wi).trans hE
                have hG3 := hG2.ext hV
                have m1 : V.cell? ⟨w.heap.size, 116, none⟩ = _ := hG3.map (i := 110) (by omega)
                have z1 := hG3.fz 116
                go_wp2_with fail
                go_roundw
                case rel =>
                  refine ⟨2, by omega, rfl, Below.setCell (hE2.trans hV) (Nat.le_refl _) _, (hG3.setMap 110 1).congr fun i hi => ?_⟩
                  unfold mp; split <;> simp_all
                case measure => simp [intOf]
            · obtain rfl : j = 2 := by omega
              rw [show ((2 : Nat) : Int) = 2 from rfl]
              go_wp2_with fail
              go_roundw
              case rel =>
                exact ⟨2, by omega, rfl, hE2, hG2.congr fun i _ => by unfold mp; simp⟩
              case measure => simp [intOf]
      · obtain rfl : k = 2 := by omega
        rw [show ((2 * 2 : Nat) : Int) = 4 from rfl]
        clear k0 k1 i0 i2
        go_wp2_with (refine load_arr (op := ⟨some 40, _, _, _, _, _⟩) hGr rfl (.tmp 39) rfl rfl ?_)
        go_loopw [41] (fun i wr => ∃ k : Nat, k ≤ 256 ∧ i = .int .i64 k ∧ Ext w wr ∧ GR wr w.heap.size (.slice none 0 0) (smp k) (mp 2 0)) (fun i _ => 256 - (intOf i).toNat)
        case atStart => exact ⟨0, by omega, rfl, hEr, hGr⟩
        case round =>
          clear hGr hEr
          rename World => wi
          obtain ⟨k, hk, rfl, hEr, hGr⟩ := hrel
          by_cases hlt : k < 256
          · have hix := arr_index (mp 2 0) k hlt
            have hst := smp_step k
            have hb := mp_le k
            have hz := smp_le k
            have e5 := hGr.c5
            have z5 := hGr.fz 5
            have hset := hGr.setSize (smp (k + 1))
            rw [hst] at hset
            have HS := Lib.hid hset
            have HT := Lib.hid hst
            have HG := Lib.hid hGr
            clear hset hst hGr
            generalize smp k = z at *
            generalize mp 2 0 k = b at *
            go_wp2_with fail
            go_roundw
            case rel => exact ⟨k + 1, by omega, by go_num, Below.setCell hEr (Nat.le_refl _) _, by rw [HT.out]; exact HS.out⟩
            case measure => simp [intOf]; omega
          · obtain rfl : k = 256 := by omega
            rw [show ((256 : Nat) : Int) = 256 from rfl]
            have hGr : GR wi w.heap.size (.slice none 0 0) 2 (mp 2 0) := hGr
            go_wp2_with (refine load_arr (op := ⟨some 57, _, _, _, _, _⟩) hGr rfl (.tmp 56) rfl rfl ?_)
            go_loopw [9, 58] (fun xv i wr => ∃ k : Nat, k ≤ 256 ∧ i = .int .i64 k ∧ xv = .int .u8 (smp k) ∧ Ext w wr ∧ GR wr w.heap.size (.slice none 0 0) 2 (fun j => if j < k then fmp j else mp 2 0 j)) (fun _ i _ => 256 - (intOf i).toNat)
            case atStart => exact ⟨0, by omega, rfl, rfl, hEr, hGr⟩
            case round =>
              clear hGr hEr
              rename World => wj
              obtain ⟨k, hk, rfl, rfl, hEr, hGr⟩ := hrel
              by_cases hlt : k < 256
              · have hix := arr_index (mp 2 0) k hlt
                have hz := smp_le k
                by_cases hb : mp 2 0 k = 0
                · obtain ⟨hf, hs1⟩ := mp_zero hb
                  rw [hb] at hix
                  have HF := Lib.hid hf
                  have HS1 := Lib.hid hs1
                  clear hf hs1 hb
                  generalize hzz : smp k = z at *
                  have HZ := Lib.hid hzz
                  clear hzz
                  go_wp2_with fail
                  apply wp_region_seq (l := [_, _, _, _, _, _, _, _, _]) (t := [_, _]) [some 64, some 65, some 66, some 67, some 68, some 69, some 70, some 71, some 72, some 73, none] [[], [], [], [2], [3], [4], [5], [0], [7], [1, 8], [6, 9]] [9, 9, 9, 9, 9, 9, 9, 8, 9] [eqv _, eqv _, eqv _, eqv _, eqv _, eqv _, eqv _, eqv _, eqv _] (by kernel_rfl) (by kernel_rfl) ⟨?o0, ?o1, ?o2, ?o3, ?o4, ?o5, ?o6, ?o7, ?o8, trivial⟩ ?last
                  case o0 => -- Op.move (Operand.tmp 3)
                    intro xv V hE _
                    simp only [putD, List.foldl_nil, List.getD_cons_zero]
                    refine OpGoal.plain ?_
                    go_wp2_with fail
                    exact ⟨rfl, Ext.refl _, rfl⟩
                  case o1 => -- Op.move (Operand.tmp 10)
                    intro xv V hE _
                    simp only [putD, List.foldl_nil, List.getD_cons_zero, List.getD_cons_succ]
                    refine OpGoal.plain ?_
                    go_wp2_with fail
                    exact ⟨rfl, Ext.refl _, rfl⟩
                  case o2 => -- Op.move (Operand.tmp 3)
                    intro xv V hE _
                    simp only [putD, List.foldl_nil, List.getD_cons_zero, List.getD_cons_succ]
                    refine OpGoal.plain ?_
                    go_wp2_with fail
                    exact ⟨rfl, Ext.refl _, rfl⟩
                  case o3 => -- Op.nilCheck (Operand.tmp 66)
                    intro xv V hE hp
                    have r2 : xv 2 = _ := hp.1
                    clear hp
                    simp only [putD, List.foldl_nil, List.foldl_cons, List.getD_cons_zero, List.getD_cons_succ, Act.put, List.setIfInBounds_toArray, List.set_cons_zero, List.set_cons_succ]
                    refine OpGoal.plain ?_
                    go_wp2_with fail
                    exact ⟨rfl, Ext.refl _, rfl⟩
                  case o4 => -- Op.fieldAddr 169 (Operand.tmp 67) 1
                    intro xv V hE hp
                    have r3 : xv 3 = _ := hp.1
                    clear hp
                    simp only [putD, List.foldl_nil, List.foldl_cons, List.getD_cons_zero, List.getD_cons_succ, Act.put, List.setIfInBounds_toArray, List.set_cons_zero, List.set_cons_succ]
                    refine OpGoal.plain ?_
                    go_wp2_with fail
                    exact ⟨rfl, Ext.refl _, rfl⟩
                  case o5 => -- Op.load 3 (Operand.tmp 68)
                    intro xv V hE hp
                    have r4 : xv 4 = _ := hp.1
                    clear hp
                    have k5 := (hGr.ext ((Ext.drew wj).trans hE)).c5
                    simp only [putD, List.foldl_nil, List.foldl_cons, List.getD_cons_zero, List.getD_cons_succ, Act.put, List.setIfInBounds_toArray, List.set_cons_zero, List.set_cons_succ]
                    refine OpGoal.plain ?_
                    go_wp2_with fail
                    exact ⟨rfl, Ext.refl _, rfl⟩
                  case o6 => -- Op.convert 3 5 (Operand.tmp 69)
                    intro xv V hE hp
                    have r5 : xv 5 = _ := hp.1
                    clear hp
                    simp only [putD, List.foldl_nil, List.foldl_cons, List.getD_cons_zero, List.getD_cons_succ, Act.put, List.setIfInBounds_toArray, List.set_cons_zero, List.set_cons_succ]
                    refine OpGoal.plain ?_
                    go_wp2_with fail
                    exact ⟨rfl, Ext.refl _, rfl⟩
                  case o7 => -- Op.nilCheck (Operand.tmp 64)
                    intro xv V hE hp
                    have r0 : xv 0 = _ := hp.1
                    clear hp
                    simp only [putD, List.foldl_nil, List.foldl_cons, List.getD_cons_zero, List.getD_cons_succ, Act.put, List.setIfInBounds_toArray, List.set_cons_zero, List.set_cons_succ]
                    refine OpGoal.plain ?_
                    go_wp2_with fail
                    exact ⟨rfl, Ext.refl _, rfl⟩
                  case o8 => -- Op.fieldAddr 169 (Operand.tmp 71) 2
                    intro xv V hE hp
                    have r7 : xv 7 = _ := hp.1
                    clear hp
                    simp only [putD, List.foldl_nil, List.foldl_cons, List.getD_cons_zero, List.getD_cons_succ, Act.put, List.setIfInBounds_toArray, List.set_cons_zero, List.set_cons_succ]
                    refine OpGoal.plain ?_
                    go_wp2_with fail
                    exact ⟨rfl, Ext.refl _, rfl⟩
                  case last =>
                    intro xv V hE hp
                    have r0 : xv 0 = _ := hp.1
                    have r1 : xv 1 = _ := hp.2.1
                    have r2 : xv 2 = _ := hp.2.2.1
                    have r3 : xv 3 = _ := hp.2.2.2.1
                    have r4 : xv 4 = _ := hp.2.2.2.2.1
                    have r5 : xv 5 = _ := hp.2.2.2.2.2.1
                    have r6 : xv 6 = _ := hp.2.2.2.2.2.2.1
                    have r7 : xv 7 = _ := hp.2.2.2.2.2.2.2.1
                    have r8 : xv 8 = _ := hp.2.2.2.2.2.2.2.2.1
                    clear hp
                    simp only [putD, List.foldl_nil, List.foldl_cons, List.getD_cons_zero, List.getD_cons_succ, Act.put, List.length_cons, List.length_nil, List.range_succ, List.range_zero, List.nil_append, List.cons_append, List.setIfInBounds_toArray, List.set_cons_zero, List.set_cons_succ]
                    have hV : Ext wj V := (Ext.drew wj).trans hE
                    have hG3 := hGr.ext hV
                    have m1 := hG3.map hlt
                    have z1 := hG3.fz (6 + k)
                    have HG := Lib.hid hG3
                    clear hG3 hGr
                    go_wp2_with fail
                    go_roundw
                    case rel =>
                      exact ⟨k + 1, by omega, by go_num, by rw [HS1.out], Below.setCell (hEr.trans hV) (Nat.le_refl _) _, (HG.out.setMap k 2).congr fun i _ => map_next k 2 HF.out.symm i⟩
                    case measure => simp [intOf]; omega
                · have hb1 : mp 2 0 k = 1 := by have := mp_le k; omega
                  obtain ⟨hf, hs1⟩ := mp_one hb1
                  rw [hb1] at hix
                  have HF := Lib.hid hf
                  have HS1 := Lib.hid hs1
                  have m1 := hGr.map hlt
                  have z1 := hGr.fz (6 + k)
                  have HG := Lib.hid hGr
                  clear hf hs1 hb hb1 hGr
                  generalize hzz : smp k = z at *
                  have HZ := Lib.hid hzz
                  clear hzz
                  go_wp2_with fail
                  go_roundw
                  case rel =>
                    exact ⟨k + 1, by omega, by go_num, by rw [HS1.out], Below.setCell hEr (Nat.le_refl _) _, (HG.out.setMap k z).congr fun i _ => map_next k z HF.out.symm i⟩
                  case measure => simp [intOf]; omega
              · obtain rfl : k = 256 := by omega
                rw [show ((256 : Nat) : Int) = 256 from rfl]
                have hG : GR wj w.heap.size (.slice none 0 0) 2 fmp := hGr.congr fun i hi => by rw [if_pos hi]
                clear hGr
                have e5 := hG.c5
                have e4 := hG.c4
                have z4 := hG.fz 4
                have hgl := hG.lt
                have hmk := make22
                go_wp2_with fail
                obtain ⟨F1, F2, F3⟩ := tab_world hEr hG (Nat.le_refl _) 164
                have htz : w.heap.size ≤ wj.heap.size := hEr.sz
                generalize (wj.setCell ⟨w.heap.size, 4, none⟩ (.slice (some ⟨wj.heap.size, 0, none⟩) 2 2)).alloc (.cells #[.pointer none, .pointer none] 164) = W1 at F1 F2 F3 ⊢
                generalize wj.heap.size = t at F1 F2 htz ⊢
                clear hG hEr e5 e4 z4 hgl hmk q0 q1 q2 q3
                go_loopw [12] (fun i wr => ∃ k : Nat, k ≤ 2 ∧ i = .int .i64 (2 * k : Nat) ∧ Ext w wr ∧ GSt w.heap.size wr w.heap.size t k) (fun i _ => 4 - (intOf i).toNat)
                case atStart => exact ⟨0, by omega, rfl, F3, F1, F2⟩
                case round =>
                  clear F1 F2 F3
                  rename World => wk
                  obtain ⟨k, hk, rfl, hEr, hS⟩ := hrel
                  by_cases k0 : k = 0
                  · subst k0
                    obtain ⟨G1, G2⟩ := hS
                    go_wp2_with fail
                    apply wp_region_seq (l := [_, _, _, _, _, _, _, _, _, _, _, _, _, _, _, _, _]) (t := [_]) [some 98, some 99, some 100, some 101, some 102, some 103, some 104, some 105, some 106, some 107, some 108, some 109, some 110, some 111, some 112, some 113, some 114, some 115] [[], [0], [1], [], [], [3, 4], [5], [], [], [8], [7, 9], [10], [], [12], [], [13, 14], [], [2, 6, 11, 15, 16]] [1, 2, 17, 5, 5, 6, 17, 10, 9, 10, 11, 17, 13, 15, 15, 17, 17] [eqv _, eqv _, eqv _, eqv _, eqv _, eqv _, eqv _, eqv _, eqv _, eqv _, eqv _, eqv _, eqv _, eqv _, eqv _, eqv _, eqv _] (by kernel_rfl) (by kernel_rfl) ⟨?o0, ?o1, ?o2, ?o3, ?o4, ?o5, ?o6, ?o7, ?o8, ?o9, ?o10, ?o11, ?o12, ?o13, ?o14, ?o15, ?o16, trivial⟩ ?last
                    case o0 => -- Op.move (Operand.tmp 3)
                      intro xv V hE _
                      simp only [putD, List.foldl_nil, List.getD_cons_zero]
                      refine OpGoal.plain ?_
                      go_wp2_with fail
                      exact ⟨rfl, Ext.refl _, rfl⟩
                    case o1 => -- Op.nilCheck (Operand.tmp 98)
                      intro xv V hE hp
                      have r0 : xv 0 = _ := hp.1
                      clear hp
                      simp only [putD, List.foldl_nil, List.foldl_cons, List.getD_cons_zero, List.getD_cons_succ, Act.put, List.setIfInBounds_toArray, List.set_cons_zero, List.set_cons_succ]
                      refine OpGoal.plain ?_
                      go_wp2_with fail
                      exact ⟨rfl, Ext.refl _, rfl⟩
                    case o2 => -- Op.fieldAddr 169 (Operand.tmp 99) 0
                      intro xv V hE hp
                      have r1 : xv 1 = _ := hp.1
                      clear hp
                      simp only [putD, List.foldl_nil, List.foldl_cons, List.getD_cons_zero, List.getD_cons_succ, Act.put, List.setIfInBounds_toArray, List.set_cons_zero, List.set_cons_succ]
                      refine OpGoal.plain ?_
                      go_wp2_with fail
                      exact ⟨rfl, Ext.refl _, rfl⟩
                    case o3 => -- Op.move (Operand.tmp 0)
                      intro xv V hE _
                      simp only [putD, List.foldl_nil, List.getD_cons_zero, List.getD_cons_succ]
                      refine OpGoal.plain ?_
                      go_wp2_with fail
                      exact ⟨rfl, Ext.refl _, rfl⟩
                    case o4 => -- Op.move (Operand.tmp 12)
                      intro xv V hE _
                      simp only [putD, List.foldl_nil, List.getD_cons_zero, List.getD_cons_succ]
                      refine OpGoal.plain ?_
                      go_wp2_with fail
                      exact ⟨rfl, Ext.refl _, rfl⟩
                    case o5 => -- Op.indexAddr 36 (Operand.tmp 101) (Operand.tmp 102)
                      intro xv V hE hp
                      have r3 : xv 3 = _ := hp.1
                      have r4 : xv 4 = _ := hp.2.1
                      clear hp
                      simp only [putD, List.foldl_nil, List.foldl_cons, List.getD_cons_zero, List.getD_cons_succ, Act.put, List.setIfInBounds_toArray, List.set_cons_zero, List.set_cons_succ]
                      refine OpGoal.plain ?_
                      go_wp2_with fail
                      exact ⟨rfl, Ext.refl _, rfl⟩
                    case o6 => -- Op.load 9 (Operand.tmp 103)
                      intro xv V hE hp
                      have r5 : xv 5 = _ := hp.1
                      clear hp
                      have hx := hEr.trans ((Ext.drew wk).trans hE); have j0 := (hx.old (p := ⟨o, 0, none⟩) ho).trans h0; have j1 := (hx.old (p := ⟨o, 1, none⟩) ho).trans h1
                      simp only [putD, List.foldl_nil, List.foldl_cons, List.getD_cons_zero, List.getD_cons_succ, Act.put, List.setIfInBounds_toArray, List.set_cons_zero, List.set_cons_succ]
                      refine OpGoal.plain ?_
                      go_wp2_with fail
                      exact ⟨rfl, Ext.refl _, rfl⟩
                    case o7 => -- Op.move (Operand.tmp 0)
                      intro xv V hE _
                      simp only [putD, List.foldl_nil, List.getD_cons_zero, List.getD_cons_succ]
                      refine OpGoal.plain ?_
                      go_wp2_with fail
                      exact ⟨rfl, Ext.refl _, rfl⟩
                    case o8 => -- Op.move (Operand.tmp 12)
                      intro xv V hE _
                      simp only [putD, List.foldl_nil, List.getD_cons_zero, List.getD_cons_succ]
                      refine OpGoal.plain ?_
                      go_wp2_with fail
                      exact ⟨rfl, Ext.refl _, rfl⟩
                    case o9 => -- Op.binOp BinOp.add 3 (Operand.tmp 106) (Operand.const (Value.int IntKind.i64 1))
                      intro xv V hE hp
                      have r8 : xv 8 = _ := hp.1
                      clear hp
                      simp only [putD, List.foldl_nil, List.foldl_cons, List.getD_cons_zero, List.getD_cons_succ, Act.put, List.setIfInBounds_toArray, List.set_cons_zero, List.set_cons_succ]
                      refine OpGoal.plain ?_
                      go_wp2_with fail
                      exact ⟨rfl, Ext.refl _, rfl⟩
                    case o10 => -- Op.indexAddr 36 (Operand.tmp 105) (Operand.tmp 107)
                      intro xv V hE hp
                      have r7 : xv 7 = _ := hp.1
                      have r9 : xv 9 = _ := hp.2.1
                      clear hp
                      simp only [putD, List.foldl_nil, List.foldl_cons, List.getD_cons_zero, List.getD_cons_succ, Act.put, List.setIfInBounds_toArray, List.set_cons_zero, List.set_cons_succ]
                      refine OpGoal.plain ?_
                      go_wp2_with fail
                      exact ⟨rfl, Ext.refl _, rfl⟩
                    case o11 => -- Op.load 9 (Operand.tmp 108)
                      intro xv V hE hp
                      have r10 : xv 10 = _ := hp.1
                      clear hp
                      have hx := hEr.trans ((Ext.drew wk).trans hE); have j0 := (hx.old (p := ⟨o, 0, none⟩) ho).trans h0; have j1 := (hx.old (p := ⟨o, 1, none⟩) ho).trans h1
                      simp only [putD, List.foldl_nil, List.foldl_cons, List.getD_cons_zero, List.getD_cons_succ, Act.put, List.setIfInBounds_toArray, List.set_cons_zero, List.set_cons_succ]
                      refine OpGoal.plain ?_
                      go_wp2_with fail
                      exact ⟨rfl, Ext.refl _, rfl⟩
                    case o12 => -- Op.move (Operand.tmp 0)
                      intro xv V hE _
                      simp only [putD, List.foldl_nil, List.getD_cons_zero, List.getD_cons_succ]
                      refine OpGoal.plain ?_
                      go_wp2_with fail
                      exact ⟨rfl, Ext.refl _, rfl⟩
                    case o13 => -- Op.call { callee := Callee.builtin Builtin.len, args := #[Operand.tmp 110], argT
                      intro xv V hE hp
                      have r12 : xv 12 = _ := hp.1
                      clear hp
                      simp only [putD, List.foldl_nil, List.foldl_cons, List.getD_cons_zero, List.getD_cons_succ, Act.put, List.setIfInBounds_toArray, List.set_cons_zero, List.set_cons_succ]
                      refine OpGoal.plain ?_
                      go_wp2_with fail
                      exact ⟨rfl, Ext.refl _, rfl⟩
                    case o14 => -- Op.move (Operand.tmp 12)
                      intro xv V hE _
                      simp only [putD, List.foldl_nil, List.getD_cons_zero, List.getD_cons_succ]
                      refine OpGoal.plain ?_
                      go_wp2_with fail
                      exact ⟨rfl, Ext.refl _, rfl⟩
                    case o15 => -- Op.binOp BinOp.sub 3 (Operand.tmp 111) (Operand.tmp 112) 3
                      intro xv V hE hp
                      have r13 : xv 13 = _ := hp.1
                      have r14 : xv 14 = _ := hp.2.1
                      clear hp
                      simp only [putD, List.foldl_nil, List.foldl_cons, List.getD_cons_zero, List.getD_cons_succ, Act.put, List.setIfInBounds_toArray, List.set_cons_zero, List.set_cons_succ]
                      refine OpGoal.plain ?_
                      go_wp2_with fail
                      exact ⟨rfl, Ext.refl _, rfl⟩
                    case o16 => -- Op.move (Operand.tmp 3)
                      intro xv V hE _
                      simp only [putD, List.foldl_nil, List.getD_cons_zero, List.getD_cons_succ]
                      refine OpGoal.plain ?_
                      go_wp2_with fail
                      exact ⟨rfl, Ext.refl _, rfl⟩
                    case last =>
                      intro xv V hE hp
                      have r0 : xv 0 = _ := hp.1
                      have r1 : xv 1 = _ := hp.2.1
                      have r2 : xv 2 = _ := hp.2.2.1
                      have r3 : xv 3 = _ := hp.2.2.2.1
                      have r4 : xv 4 = _ := hp.2.2.2.2.1
                      have r5 : xv 5 = _ := hp.2.2.2.2.2.1
                      have r6 : xv 6 = _ := hp.2.2.2.2.2.2.1
                      have r7 : xv 7 = _ := hp.2.2.2.2.2.2.2.1
                      have r8 : xv 8 = _ := hp.2.2.2.2.2.2.2.2.1
                      have r9 : xv 9 = _ := hp.2.2.2.2.2.2.2.2.2.1
                      have r10 : xv 10 = _ := hp.2.2.2.2.2.2.2.2.2.2.1
                      have r11 : xv 11 = _ := hp.2.2.2.2.2.2.2.2.2.2.2.1
                      have r12 : xv 12 = _ := hp.2.2.2.2.2.2.2.2.2.2.2.2.1
                      have r13 : xv 13 = _ := hp.2.2.2.2.2.2.2.2.2.2.2.2.2.1
                      have r14 : xv 14 = _ := hp.2.2.2.2.2.2.2.2.2.2.2.2.2.2.1
                      have r15 : xv 15 = _ := hp.2.2.2.2.2.2.2.2.2.2.2.2.2.2.2.1
                      have r16 : xv 16 = _ := hp.2.2.2.2.2.2.2.2.2.2.2.2.2.2.2.2.1
                      clear hp
                      simp only [putD, List.foldl_nil, List.foldl_cons, List.getD_cons_zero, List.getD_cons_succ, Act.put, List.length_cons, List.length_nil, List.range_succ, List.range_zero, List.nil_append, List.cons_append, List.setIfInBounds_toArray, List.set_cons_zero, List.set_cons_succ]
                      have hx := (Ext.drew wk).trans hE
                      have K1 := G1.ext hx
                      have K2 := G2.ext hx
                      have hll := add_r1 w.heap.size t ⟨#[92]⟩ 4 V K1 K2
                      go_wp2_with fail
                      refine hll.mono ?_
                      rintro e w2 ⟨rfl, a, b, ha, hb, hab, n1, n2, n3, hU⟩
                      go_wp2_with fail
                      go_roundw
                      case rel =>
                        have hz := (hEr.trans hx).sz
                        have hne := K1.ne2 K2
                        exact ⟨1, by omega, rfl, Below.trans (hEr.trans hx) (hU.below hz (by simp; omega)), a, b, by omega, hab, K1.block (hU.block _ K1.lt (by simp; omega)), n1, n2, n3⟩
                      case measure => simp [intOf]
                  · by_cases k1 : k = 1
                    · subst k1
                      obtain ⟨a, b, ha, hab, G1, G2, G3, G4⟩ := hS
                      go_wp2_with fail
                      apply wp_region_seq (l := [_, _, _, _, _, _, _, _, _, _, _, _, _, _, _, _, _]) (t := [_]) [some 98, some 99, some 100, some 101, some 102, some 103, some 104, some 105, some 106, some 107, some 108, some 109, some 110, some 111, some 112, some 113, some 114, some 115] [[], [0], [1], [], [], [3, 4], [5], [], [], [8], [7, 9], [10], [], [12], [], [13, 14], [], [2, 6, 11, 15, 16]] [1, 2, 17, 5, 5, 6, 17, 10, 9, 10, 11, 17, 13, 15, 15, 17, 17] [eqv _, eqv _, eqv _, eqv _, eqv _, eqv _, eqv _, eqv _, eqv _, eqv _, eqv _, eqv _, eqv _, eqv _, eqv _, eqv _, eqv _] (by kernel_rfl) (by kernel_rfl) ⟨?o0, ?o1, ?o2, ?o3, ?o4, ?o5, ?o6, ?o7, ?o8, ?o9, ?o10, ?o11, ?o12, ?o13, ?o14, ?o15, ?o16, trivial⟩ ?last
                      case o0 => -- Op.move (Operand.tmp 3)
                        intro xv V hE _
                        simp only [putD, List.foldl_nil, List.getD_cons_zero]
                        refine OpGoal.plain ?_
                        go_wp2_with fail
                        exact ⟨rfl, Ext.refl _, rfl⟩
                      case o1 => -- Op.nilCheck (Operand.tmp 98)
                        intro xv V hE hp
                        have r0 : xv 0 = _ := hp.1
                        clear hp
                        simp only [putD, List.foldl_nil, List.foldl_cons, List.getD_cons_zero, List.getD_cons_succ, Act.put, List.setIfInBounds_toArray, List.set_cons_zero, List.set_cons_succ]
                        refine OpGoal.plain ?_
                        go_wp2_with fail
                        exact ⟨rfl, Ext.refl _, rfl⟩
                      case o2 => -- Op.fieldAddr 169 (Operand.tmp 99) 0
                        intro xv V hE hp
                        have r1 : xv 1 = _ := hp.1
                        clear hp
                        simp only [putD, List.foldl_nil, List.foldl_cons, List.getD_cons_zero, List.getD_cons_succ, Act.put, List.setIfInBounds_toArray, List.set_cons_zero, List.set_cons_succ]
                        refine OpGoal.plain ?_
                        go_wp2_with fail
                        exact ⟨rfl, Ext.refl _, rfl⟩
                      case o3 => -- Op.move (Operand.tmp 0)
                        intro xv V hE _
                        simp only [putD, List.foldl_nil, List.getD_cons_zero, List.getD_cons_succ]
                        refine OpGoal.plain ?_
                        go_wp2_with fail
                        exact ⟨rfl, Ext.refl _, rfl⟩
                      case o4 => -- Op.move (Operand.tmp 12)
                        intro xv V hE _
                        simp only [putD, List.foldl_nil, List.getD_cons_zero, List.getD_cons_succ]
                        refine OpGoal.plain ?_
                        go_wp2_with fail
                        exact ⟨rfl, Ext.refl _, rfl⟩
                      case o5 => -- Op.indexAddr 36 (Operand.tmp 101) (Operand.tmp 102)
                        intro xv V hE hp
                        have r3 : xv 3 = _ := hp.1
                        have r4 : xv 4 = _ := hp.2.1
                        clear hp
                        simp only [putD, List.foldl_nil, List.foldl_cons, List.getD_cons_zero, List.getD_cons_succ, Act.put, List.setIfInBounds_toArray, List.set_cons_zero, List.set_cons_succ]
                        refine OpGoal.plain ?_
                        go_wp2_with fail
                        exact ⟨rfl, Ext.refl _, rfl⟩
                      case o6 => -- Op.load 9 (Operand.tmp 103)
                        intro xv V hE hp
                        have r5 : xv 5 = _ := hp.1
                        clear hp
                        have hx := hEr.trans ((Ext.drew wk).trans hE); have j0 := (hx.old (p := ⟨o, 2, none⟩) ho).trans h2; have j1 := (hx.old (p := ⟨o, 3, none⟩) ho).trans h3
                        simp only [putD, List.foldl_nil, List.foldl_cons, List.getD_cons_zero, List.getD_cons_succ, Act.put, List.setIfInBounds_toArray, List.set_cons_zero, List.set_cons_succ]
                        refine OpGoal.plain ?_
                        go_wp2_with fail
                        exact ⟨rfl, Ext.refl _, rfl⟩
                      case o7 => -- Op.move (Operand.tmp 0)
                        intro xv V hE _
                        simp only [putD, List.foldl_nil, List.getD_cons_zero, List.getD_cons_succ]
                        refine OpGoal.plain ?_
                        go_wp2_with fail
                        exact ⟨rfl, Ext.refl _, rfl⟩
                      case o8 => -- Op.move (Operand.tmp 12)
                        intro xv V hE _
                        simp only [putD, List.foldl_nil, List.getD_cons_zero, List.getD_cons_succ]
                        refine OpGoal.plain ?_
                        go_wp2_with fail
                        exact ⟨rfl, Ext.refl _, rfl⟩
                      case o9 => -- Op.binOp BinOp.add 3 (Operand.tmp 106) (Operand.const (Value.int IntKind.i64 1))
                        intro xv V hE hp
                        have r8 : xv 8 = _ := hp.1
                        clear hp
                        simp only [putD, List.foldl_nil, List.foldl_cons, List.getD_cons_zero, List.getD_cons_succ, Act.put, List.setIfInBounds_toArray, List.set_cons_zero, List.set_cons_succ]
                        refine OpGoal.plain ?_
                        go_wp2_with fail
                        exact ⟨rfl, Ext.refl _, rfl⟩
                      case o10 => -- Op.indexAddr 36 (Operand.tmp 105) (Operand.tmp 107)
                        intro xv V hE hp
                        have r7 : xv 7 = _ := hp.1
                        have r9 : xv 9 = _ := hp.2.1
                        clear hp
                        simp only [putD, List.foldl_nil, List.foldl_cons, List.getD_cons_zero, List.getD_cons_succ, Act.put, List.setIfInBounds_toArray, List.set_cons_zero, List.set_cons_succ]
                        refine OpGoal.plain ?_
                        go_wp2_with fail
                        exact ⟨rfl, Ext.refl _, rfl⟩
                      case o11 => -- Op.load 9 (Operand.tmp 108)
                        intro xv V hE hp
                        have r10 : xv 10 = _ := hp.1
                        clear hp
                        have hx := hEr.trans ((Ext.drew wk).trans hE); have j0 := (hx.old (p := ⟨o, 2, none⟩) ho).trans h2; have j1 := (hx.old (p := ⟨o, 3, none⟩) ho).trans h3
                        simp only [putD, List.foldl_nil, List.foldl_cons, List.getD_cons_zero, List.getD_cons_succ, Act.put, List.setIfInBounds_toArray, List.set_cons_zero, List.set_cons_succ]
                        refine OpGoal.plain ?_
                        go_wp2_with fail
                        exact ⟨rfl, Ext.refl _, rfl⟩
                      case o12 => -- Op.move (Operand.tmp 0)
                        intro xv V hE _
                        simp only [putD, List.foldl_nil, List.getD_cons_zero, List.getD_cons_succ]
                        refine OpGoal.plain ?_
                        go_wp2_with fail
                        exact ⟨rfl, Ext.refl _, rfl⟩
                      case o13 => -- Op.call { callee := Callee.builtin Builtin.len, args := #[Operand.tmp 110], argT
                        intro xv V hE hp
                        have r12 : xv 12 = _ := hp.1
                        clear hp
                        simp only [putD, List.foldl_nil, List.foldl_cons, List.getD_cons_zero, List.getD_cons_succ, Act.put, List.setIfInBounds_toArray, List.set_cons_zero, List.set_cons_succ]
                        refine OpGoal.plain ?_
                        go_wp2_with fail
                        exact ⟨rfl, Ext.refl _, rfl⟩
                      case o14 => -- Op.move (Operand.tmp 12)
                        intro xv V hE _
                        simp only [putD, List.foldl_nil, List.getD_cons_zero, List.getD_cons_succ]
                        refine OpGoal.plain ?_
                        go_wp2_with fail
                        exact ⟨rfl, Ext.refl _, rfl⟩
                      case o15 => -- Op.binOp BinOp.sub 3 (Operand.tmp 111) (Operand.tmp 112) 3
                        intro xv V hE hp
                        have r13 : xv 13 = _ := hp.1
                        have r14 : xv 14 = _ := hp.2.1
                        clear hp
                        simp only [putD, List.foldl_nil, List.foldl_cons, List.getD_cons_zero, List.getD_cons_succ, Act.put, List.setIfInBounds_toArray, List.set_cons_zero, List.set_cons_succ]
                        refine OpGoal.plain ?_
                        go_wp2_with fail
                        exact ⟨rfl, Ext.refl _, rfl⟩
                      case o16 => -- Op.move (Operand.tmp 3)
                        intro xv V hE _
                        simp only [putD, List.foldl_nil, List.getD_cons_zero, List.getD_cons_succ]
                        refine OpGoal.plain ?_
                        go_wp2_with fail
                        exact ⟨rfl, Ext.refl _, rfl⟩
                      case last =>
                        intro xv V hE hp
                        have r0 : xv 0 = _ := hp.1
                        have r1 : xv 1 = _ := hp.2.1
                        have r2 : xv 2 = _ := hp.2.2.1
                        have r3 : xv 3 = _ := hp.2.2.2.1
                        have r4 : xv 4 = _ := hp.2.2.2.2.1
                        have r5 : xv 5 = _ := hp.2.2.2.2.2.1
                        have r6 : xv 6 = _ := hp.2.2.2.2.2.2.1
                        have r7 : xv 7 = _ := hp.2.2.2.2.2.2.2.1
                        have r8 : xv 8 = _ := hp.2.2.2.2.2.2.2.2.1
                        have r9 : xv 9 = _ := hp.2.2.2.2.2.2.2.2.2.1
                        have r10 : xv 10 = _ := hp.2.2.2.2.2.2.2.2.2.2.1
                        have r11 : xv 11 = _ := hp.2.2.2.2.2.2.2.2.2.2.2.1
                        have r12 : xv 12 = _ := hp.2.2.2.2.2.2.2.2.2.2.2.2.1
                        have r13 : xv 13 = _ := hp.2.2.2.2.2.2.2.2.2.2.2.2.2.1
                        have r14 : xv 14 = _ := hp.2.2.2.2.2.2.2.2.2.2.2.2.2.2.1
                        have r15 : xv 15 = _ := hp.2.2.2.2.2.2.2.2.2.2.2.2.2.2.2.1
                        have r16 : xv 16 = _ := hp.2.2.2.2.2.2.2.2.2.2.2.2.2.2.2.2.1
                        clear hp
                        simp only [putD, List.foldl_nil, List.foldl_cons, List.getD_cons_zero, List.getD_cons_succ, Act.put, List.length_cons, List.length_nil, List.range_succ, List.range_zero, List.nil_append, List.cons_append, List.setIfInBounds_toArray, List.set_cons_zero, List.set_cons_succ]
                        have hx := (Ext.drew wk).trans hE
                        have K1 := G1.ext hx
                        have K2 := G2.ext hx
                        have K3 : Nd V a _ _ _ _ _ := G3.of_block (Below.block hx _ G3.lt)
                        have K4 : Nd V b _ _ _ _ _ := G4.of_block (Below.block hx _ G4.lt)
                        have hll := add_r2 w.heap.size t a b ⟨#[10]⟩ 2 V K1 K2 K3
                        go_wp2_with fail
                        refine hll.mono ?_
                        rintro e w2 ⟨rfl, t1, c, h1', h2', n1, n2, n3, hU⟩
                        go_wp2_with fail
                        go_roundw
                        case rel =>
                          have hz := (hEr.trans hx).sz
                          have hat := K2.neN K3
                          have hag := K1.neN K3
                          exact ⟨2, by omega, rfl, Below.trans (hEr.trans hx) (hU.below hz (by simp; omega)), t, a, t1, b, c, K1.block (hU.block _ K1.lt (by simp; omega)), K2.block (hU.block _ K2.lt (by simp; omega)), n1, n2, K4.upd hU (by simp; omega), n3⟩
                        case measure => simp [intOf]
                    · obtain rfl : k = 2 := by omega
                      rw [show ((2 * 2 : Nat) : Int) = 4 from rfl]
                      have hS : Gen wk w.heap.size := hS
                      go_wp2_with fail
                      go_ret
                      exact ⟨_, rfl, hEr, Nat.le_refl _, hS⟩
end Go.Proofs.YthppcmejffdicaaGreatDoor
