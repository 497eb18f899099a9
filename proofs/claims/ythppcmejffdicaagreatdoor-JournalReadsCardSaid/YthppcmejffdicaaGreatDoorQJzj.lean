/- (Under way) The generic replacer's lookup. -/
import Derived.Test.YthppcmejffdicaaGreatDoorQJzi

set_option linter.unusedSimpArgs false
set_option linter.unusedVariables false
namespace Go.Proofs.YthppcmejffdicaaGreatDoor
open Go.RowKit Hach Num Jn

/- what lookup finds -/
def lk : List UInt8 → List UInt8 × Nat × Bool
  | 92 :: 92 :: _ => ([92], 2, true)
  | 92 :: 110 :: _ => ([10], 2, true)
  | _ => ([], 0, false)
theorem lk_one : lk [92] = ([], 0, false) := rfl
theorem lk_bb (r : List UInt8) : lk (92 :: 92 :: r) = ([92], 2, true) := rfl
theorem lk_bn (r : List UInt8) : lk (92 :: 110 :: r) = ([10], 2, true) := rfl
theorem lk_else {c : UInt8} (h1 : c ≠ 92) (h2 : c ≠ 110) (r : List UInt8) : lk (92 :: c :: r) = ([], 0, false) := by
  unfold lk
  split
  · rename_i e; simp at e; exact absurd e.1 h1
  · rename_i e; simp at e; exact absurd e.1 h2
  · rfl
/- what is asked of a string that is not empty -/
theorem str_cons (c : UInt8) (r : List UInt8) : ∃ S : ByteArray, S = ⟨(c :: r).toArray⟩ ∧ S.size = r.length + 1 ∧ (∀ h : 0 < S.size, S[0]'h = c) ∧ S.extract 1 (r.length + 1) = ⟨r.toArray⟩ ∧ (S.toList == []) = false := by
  refine ⟨_, rfl, toArr_size _, fun _ => rfl, ?_, ?_⟩
  · apply ba_ext
    rw [ByteArray.data_extract]
    simp
  · rw [ByteArray.toList_eq]; rfl

set_option maxRecDepth 100000 in
set_option maxHeartbeats 4000000 in
theorem lookup_any (g : Nat) (s : List UInt8) (w : World) (hG : Gen w g) (hs : s.length < 1073741824) (h92 : s = [] ∨ ∃ r, s = 92 :: r) :
    Calls Tryz.prog 160 #[.pointer (some ⟨g, 0, none⟩), .string ⟨s.toArray⟩, .bool false] w fun e w' => e = .returned (.tuple #[.string ⟨(lk s).1.toArray⟩, .int .i64 (lk s).2.1, .bool (lk s).2.2]) ∧ Ext w w' := by
  obtain ⟨t, a, t1, b, c, G1, G2, G3, G4, G5, G6⟩ := hG
  have hsz := toArr_size s
  go_enter Tryz.func160, Tryz.ntmps160
  go_wp2_with fail
  go_loopw [1, 6, 7, 8, 9, 10, 11] (fun sv val kl fd best nd n wr => ∃ l : List UInt8, sv = .string ⟨l.toArray⟩ ∧ val = .string ⟨#[]⟩ ∧ kl = .int .i64 0 ∧ fd = .bool false ∧ best = .int .i64 0 ∧ Ext w wr ∧
    ((l = s ∧ nd = .pointer (some ⟨g, 0, none⟩) ∧ n = .int .i64 0) ∨ (s = 92 :: l ∧ nd = .pointer (some ⟨a, 0, none⟩) ∧ n = .int .i64 1) ∨ (s = 92 :: 92 :: l ∧ nd = .pointer (some ⟨b, 0, none⟩) ∧ n = .int .i64 2) ∨ (s = 92 :: 110 :: l ∧ nd = .pointer (some ⟨c, 0, none⟩) ∧ n = .int .i64 2)))
    (fun sv _ _ _ _ _ _ _ => match sv with | .string x => x.size | _ => 0)
  case atStart => exact ⟨s, rfl, rfl, rfl, rfl, rfl, Ext.refl _, .inl ⟨rfl, rfl, rfl⟩⟩
  case round =>
    rename World => wo
    obtain ⟨l, rfl, rfl, rfl, rfl, rfl, hE, hst⟩ := hrel
    have hEo := hE
    have H1 := G1.ext hE
    have H2 := G2.ext hE
    have H3 : Nd wo a _ _ _ _ _ := G3.of_block (Below.block hE _ G3.lt)
    have H4 := G4.ext hE
    have H5 : Nd wo b _ _ _ _ _ := G5.of_block (Below.block hE _ G5.lt)
    have H6 : Nd wo c _ _ _ _ _ := G6.of_block (Below.block hE _ G6.lt)
    clear G1 G2 G3 G4 G5 G6
    rcases hst with ⟨rfl, rfl, rfl⟩ | ⟨rfl, rfl, rfl⟩ | ⟨rfl, rfl, rfl⟩ | ⟨rfl, rfl, rfl⟩
    · have c1 := H1.c1
      have c4 := H1.c4
      have c5 := H1.c5
      rcases h92 with rfl | ⟨r, rfl⟩
      · go_wp2_with fail
        go_ret3
        exact ⟨rfl, hE⟩
      · obtain ⟨S, hS, z1, z2, z3, z4⟩ := str_cons 92 r
        rw [← hS]
        clear hS
        have t0 := H2.c0
        go_wp2_with fail
        apply wp_region_seq (l := [_, _, _, _, _, _, _]) (t := [_]) [some 51, some 52, some 53, some 54, some 55, some 56, some 57, some 12] [[], [], [1], [0], [3], [2, 4], [5], [6]] [7, 7, 7, 7, 7, 7, 7] [eqv _, eqv _, eqv _, eqv _, eqv _, eqv _, eqv _] (by kernel_rfl) (by kernel_rfl) ⟨?o0, ?o1, ?o2, ?o3, ?o4, ?o5, ?o6, trivial⟩ ?last
        case o0 => -- Op.move (Operand.tmp 0)
          intro xv V hE _
          simp only [putD, List.foldl_nil, List.getD_cons_zero]
          refine OpGoal.plain ?_
          go_wp2_with fail
          exact ⟨rfl, Ext.refl _, rfl⟩
        case o1 => -- Op.move (Operand.tmp 1)
          intro xv V hE _
          simp only [putD, List.foldl_nil, List.getD_cons_zero, List.getD_cons_succ]
          refine OpGoal.plain ?_
          go_wp2_with fail
          exact ⟨rfl, Ext.refl _, rfl⟩
        case o2 => -- Op.index 9 (Operand.tmp 52) (Operand.const (Value.int IntKind.i64 0))
          intro xv V hE hp
          have r1 : xv 1 = _ := hp.1
          clear hp
          simp only [putD, List.foldl_nil, List.foldl_cons, List.getD_cons_zero, List.getD_cons_succ, Act.put, List.setIfInBounds_toArray, List.set_cons_zero, List.set_cons_succ]
          refine OpGoal.plain ?_
          go_wp2_with fail
          exact ⟨rfl, Ext.refl _, rfl⟩
        case o3 => -- Op.nilCheck (Operand.tmp 51)
          intro xv V hE hp
          have r0 : xv 0 = _ := hp.1
          clear hp
          simp only [putD, List.foldl_nil, List.foldl_cons, List.getD_cons_zero, List.getD_cons_succ, Act.put, List.setIfInBounds_toArray, List.set_cons_zero, List.set_cons_succ]
          refine OpGoal.plain ?_
          go_wp2_with fail
          exact ⟨rfl, Ext.refl _, rfl⟩
        case o4 => -- Op.fieldAddr 169 (Operand.tmp 54) 2
          intro xv V hE hp
          have r3 : xv 3 = _ := hp.1
          clear hp
          simp only [putD, List.foldl_nil, List.foldl_cons, List.getD_cons_zero, List.getD_cons_succ, Act.put, List.setIfInBounds_toArray, List.set_cons_zero, List.set_cons_succ]
          refine OpGoal.plain ?_
          go_wp2_with fail
          exact ⟨rfl, Ext.refl _, rfl⟩
        case o5 => -- Op.indexAddr 131 (Operand.tmp 55) (Operand.tmp 53)
          intro xv V hE hp
          have r2 : xv 2 = _ := hp.1
          have r4 : xv 4 = _ := hp.2.1
          clear hp
          simp only [putD, List.foldl_nil, List.foldl_cons, List.getD_cons_zero, List.getD_cons_succ, Act.put, List.setIfInBounds_toArray, List.set_cons_zero, List.set_cons_succ]
          refine OpGoal.plain ?_
          go_wp2_with fail
          exact ⟨rfl, Ext.refl _, rfl⟩
        case o6 => -- Op.load 5 (Operand.tmp 56)
          intro xv V hE hp
          have r5 : xv 5 = _ := hp.1
          clear hp
          have km : V.cell? ⟨g, 98, none⟩ = some (.int .u8 0) := (H1.ext ((Ext.drew wo).trans hE)).map (i := 92) (by omega)
          simp only [putD, List.foldl_nil, List.foldl_cons, List.getD_cons_zero, List.getD_cons_succ, Act.put, List.setIfInBounds_toArray, List.set_cons_zero, List.set_cons_succ]
          refine OpGoal.plain ?_
          go_wp2_with fail
          exact ⟨rfl, Ext.refl _, rfl⟩
        case last =>
          intro xv V hE hp
          have r0 : xv 0 = _ := hp.1
          have r1 : xv 1 = _ := hp.2.1
          have r2 : xv 2 = _ := hp.2.2.1
          have r3 : xv 3 = _ := hp.2.2.2.1
          have r4 : xv 4 = _ := hp.2.2.2.2.1
          have r5 : xv 5 = _ := hp.2.2.2.2.2.1
          have r6 : xv 6 = _ := hp.2.2.2.2.2.2.1
          clear hp
          simp only [putD, List.foldl_nil, List.foldl_cons, List.getD_cons_zero, List.getD_cons_succ, Act.put, List.length_cons, List.length_nil, List.range_succ, List.range_zero, List.nil_append, List.cons_append, List.setIfInBounds_toArray, List.set_cons_zero, List.set_cons_succ]
          have hx := (Ext.drew wo).trans hE
          have c4 := (H1.ext hx).c4
          have c5 := (H1.ext hx).c5
          have t0 := (H2.ext hx).c0
          go_wp2_with fail
          go_roundw
          case rel => exact ⟨r, rfl, rfl, rfl, rfl, rfl, hEo.trans hx, .inr (.inl ⟨rfl, rfl, rfl⟩)⟩
          case measure => show (⟨r.toArray⟩ : ByteArray).size < S.size; rw [toArr_size]; omega
    · obtain ⟨m0, m1, m2, m3, m4⟩ := H3.cell
      have c5 := H1.c5
      cases l with
      | nil =>
        go_wp2_with fail
        go_ret3
        exact ⟨rfl, hE⟩
      | cons d r =>
        obtain ⟨S, hS, z1, z2, z3, z4⟩ := str_cons d r
        rw [← hS]
        clear hS
        have hd := UInt8.toNat_lt d
        by_cases e1 : d = 92
        · subst e1
          go_wp2_with fail
          apply wp_region_seq (l := [_, _, _, _, _, _, _]) (t := [_]) [some 51, some 52, some 53, some 54, some 55, some 56, some 57, some 12] [[], [], [1], [0], [3], [2, 4], [5], [6]] [7, 7, 7, 7, 7, 7, 7] [eqv _, eqv _, eqv _, eqv _, eqv _, eqv _, eqv _] (by kernel_rfl) (by kernel_rfl) ⟨?o0, ?o1, ?o2, ?o3, ?o4, ?o5, ?o6, trivial⟩ ?last
          case o0 => -- Op.move (Operand.tmp 0)
            intro xv V hE _
            simp only [putD, List.foldl_nil, List.getD_cons_zero]
            refine OpGoal.plain ?_
            go_wp2_with fail
            exact ⟨rfl, Ext.refl _, rfl⟩
          case o1 => -- Op.move (Operand.tmp 1)
            intro xv V hE _
            simp only [putD, List.foldl_nil, List.getD_cons_zero, List.getD_cons_succ]
            refine OpGoal.plain ?_
            go_wp2_with fail
            exact ⟨rfl, Ext.refl _, rfl⟩
          case o2 => -- Op.index 9 (Operand.tmp 52) (Operand.const (Value.int IntKind.i64 0))
            intro xv V hE hp
            have r1 : xv 1 = _ := hp.1
            clear hp
            simp only [putD, List.foldl_nil, List.foldl_cons, List.getD_cons_zero, List.getD_cons_succ, Act.put, List.setIfInBounds_toArray, List.set_cons_zero, List.set_cons_succ]
            refine OpGoal.plain ?_
            go_wp2_with fail
            exact ⟨rfl, Ext.refl _, rfl⟩
          case o3 => -- Op.nilCheck (Operand.tmp 51)
            intro xv V hE hp
            have r0 : xv 0 = _ := hp.1
            clear hp
            simp only [putD, List.foldl_nil, List.foldl_cons, List.getD_cons_zero, List.getD_cons_succ, Act.put, List.setIfInBounds_toArray, List.set_cons_zero, List.set_cons_succ]
            refine OpGoal.plain ?_
            go_wp2_with fail
            exact ⟨rfl, Ext.refl _, rfl⟩
          case o4 => -- Op.fieldAddr 169 (Operand.tmp 54) 2
            intro xv V hE hp
            have r3 : xv 3 = _ := hp.1
            clear hp
            simp only [putD, List.foldl_nil, List.foldl_cons, List.getD_cons_zero, List.getD_cons_succ, Act.put, List.setIfInBounds_toArray, List.set_cons_zero, List.set_cons_succ]
            refine OpGoal.plain ?_
            go_wp2_with fail
            exact ⟨rfl, Ext.refl _, rfl⟩
          case o5 => -- Op.indexAddr 131 (Operand.tmp 55) (Operand.tmp 53)
            intro xv V hE hp
            have r2 : xv 2 = _ := hp.1
            have r4 : xv 4 = _ := hp.2.1
            clear hp
            simp only [putD, List.foldl_nil, List.foldl_cons, List.getD_cons_zero, List.getD_cons_succ, Act.put, List.setIfInBounds_toArray, List.set_cons_zero, List.set_cons_succ]
            refine OpGoal.plain ?_
            go_wp2_with fail
            exact ⟨rfl, Ext.refl _, rfl⟩
          case o6 => -- Op.load 5 (Operand.tmp 56)
            intro xv V hE hp
            have r5 : xv 5 = _ := hp.1
            clear hp
            have km : V.cell? ⟨g, 98, none⟩ = some (.int .u8 0) := (H1.ext ((Ext.drew wo).trans hE)).map (i := 92) (by omega)
            simp only [putD, List.foldl_nil, List.foldl_cons, List.getD_cons_zero, List.getD_cons_succ, Act.put, List.setIfInBounds_toArray, List.set_cons_zero, List.set_cons_succ]
            refine OpGoal.plain ?_
            go_wp2_with fail
            exact ⟨rfl, Ext.refl _, rfl⟩
          case last =>
            intro xv V hE hp
            have r0 : xv 0 = _ := hp.1
            have r1 : xv 1 = _ := hp.2.1
            have r2 : xv 2 = _ := hp.2.2.1
            have r3 : xv 3 = _ := hp.2.2.2.1
            have r4 : xv 4 = _ := hp.2.2.2.2.1
            have r5 : xv 5 = _ := hp.2.2.2.2.2.1
            have r6 : xv 6 = _ := hp.2.2.2.2.2.2.1
            clear hp
            simp only [putD, List.foldl_nil, List.foldl_cons, List.getD_cons_zero, List.getD_cons_succ, Act.put, List.length_cons, List.length_nil, List.range_succ, List.range_zero, List.nil_append, List.cons_append, List.setIfInBounds_toArray, List.set_cons_zero, List.set_cons_succ]
            have hx := (Ext.drew wo).trans hE
            have K3 : Nd V a _ _ _ _ _ := H3.of_block (Below.block hx _ H3.lt)
            have c4 := K3.cell.2.2.2.2
            have c5 := (H1.ext hx).c5
            have t0 := (H4.ext hx).c0
            go_wp2_with fail
            go_roundw
            case rel => exact ⟨r, rfl, rfl, rfl, rfl, rfl, hEo.trans hx, .inr (.inr (.inl ⟨rfl, rfl, rfl⟩))⟩
            case measure => show (⟨r.toArray⟩ : ByteArray).size < S.size; rw [toArr_size]; omega
        · by_cases e2 : d = 110
          · subst e2
            go_wp2_with fail
            apply wp_region_seq (l := [_, _, _, _, _, _, _]) (t := [_]) [some 51, some 52, some 53, some 54, some 55, some 56, some 57, some 12] [[], [], [1], [0], [3], [2, 4], [5], [6]] [7, 7, 7, 7, 7, 7, 7] [eqv _, eqv _, eqv _, eqv _, eqv _, eqv _, eqv _] (by kernel_rfl) (by kernel_rfl) ⟨?o0, ?o1, ?o2, ?o3, ?o4, ?o5, ?o6, trivial⟩ ?last
            case o0 => -- Op.move (Operand.tmp 0)
              intro xv V hE _
              simp only [putD, List.foldl_nil, List.getD_cons_zero]
              refine OpGoal.plain ?_
              go_wp2_with fail
              exact ⟨rfl, Ext.refl _, rfl⟩
            case o1 => -- Op.move (Operand.tmp 1)
              intro xv V hE _
              simp only [putD, List.foldl_nil, List.getD_cons_zero, List.getD_cons_succ]
              refine OpGoal.plain ?_
              go_wp2_with fail
              exact ⟨rfl, Ext.refl _, rfl⟩
            case o2 => -- Op.index 9 (Operand.tmp 52) (Operand.const (Value.int IntKind.i64 0))
              intro xv V hE hp
              have r1 : xv 1 = _ := hp.1
              clear hp
              simp only [putD, List.foldl_nil, List.foldl_cons, List.getD_cons_zero, List.getD_cons_succ, Act.put, List.setIfInBounds_toArray, List.set_cons_zero, List.set_cons_succ]
              refine OpGoal.plain ?_
              go_wp2_with fail
              exact ⟨rfl, Ext.refl _, rfl⟩
            case o3 => -- Op.nilCheck (Operand.tmp 51)
              intro xv V hE hp
              have r0 : xv 0 = _ := hp.1
              clear hp
              simp only [putD, List.foldl_nil, List.foldl_cons, List.getD_cons_zero, List.getD_cons_succ, Act.put, List.setIfInBounds_toArray, List.set_cons_zero, List.set_cons_succ]
              refine OpGoal.plain ?_
              go_wp2_with fail
              exact ⟨rfl, Ext.refl _, rfl⟩
            case o4 => -- Op.fieldAddr 169 (Operand.tmp 54) 2
              intro xv V hE hp
              have r3 : xv 3 = _ := hp.1
              clear hp
              simp only [putD, List.foldl_nil, List.foldl_cons, List.getD_cons_zero, List.getD_cons_succ, Act.put, List.setIfInBounds_toArray, List.set_cons_zero, List.set_cons_succ]
              refine OpGoal.plain ?_
              go_wp2_with fail
              exact ⟨rfl, Ext.refl _, rfl⟩
            case o5 => -- Op.indexAddr 131 (Operand.tmp 55) (Operand.tmp 53)
              intro xv V hE hp
              have r2 : xv 2 = _ := hp.1
              have r4 : xv 4 = _ := hp.2.1
              clear hp
              simp only [putD, List.foldl_nil, List.foldl_cons, List.getD_cons_zero, List.getD_cons_succ, Act.put, List.setIfInBounds_toArray, List.set_cons_zero, List.set_cons_succ]
              refine OpGoal.plain ?_
              go_wp2_with fail
              exact ⟨rfl, Ext.refl _, rfl⟩
            case o6 => -- Op.load 5 (Operand.tmp 56)
              intro xv V hE hp
              have r5 : xv 5 = _ := hp.1
              clear hp
              have km : V.cell? ⟨g, 116, none⟩ = some (.int .u8 1) := (H1.ext ((Ext.drew wo).trans hE)).map (i := 110) (by omega)
              simp only [putD, List.foldl_nil, List.foldl_cons, List.getD_cons_zero, List.getD_cons_succ, Act.put, List.setIfInBounds_toArray, List.set_cons_zero, List.set_cons_succ]
              refine OpGoal.plain ?_
              go_wp2_with fail
              exact ⟨rfl, Ext.refl _, rfl⟩
            case last =>
              intro xv V hE hp
              have r0 : xv 0 = _ := hp.1
              have r1 : xv 1 = _ := hp.2.1
              have r2 : xv 2 = _ := hp.2.2.1
              have r3 : xv 3 = _ := hp.2.2.2.1
              have r4 : xv 4 = _ := hp.2.2.2.2.1
              have r5 : xv 5 = _ := hp.2.2.2.2.2.1
              have r6 : xv 6 = _ := hp.2.2.2.2.2.2.1
              clear hp
              simp only [putD, List.foldl_nil, List.foldl_cons, List.getD_cons_zero, List.getD_cons_succ, Act.put, List.length_cons, List.length_nil, List.range_succ, List.range_zero, List.nil_append, List.cons_append, List.setIfInBounds_toArray, List.set_cons_zero, List.set_cons_succ]
              have hx := (Ext.drew wo).trans hE
              have K3 : Nd V a _ _ _ _ _ := H3.of_block (Below.block hx _ H3.lt)
              have c4 := K3.cell.2.2.2.2
              have c5 := (H1.ext hx).c5
              have t0 := (H4.ext hx).c1
              go_wp2_with fail
              go_roundw
              case rel => exact ⟨r, rfl, rfl, rfl, rfl, rfl, hEo.trans hx, .inr (.inr (.inr ⟨rfl, rfl, rfl⟩))⟩
              case measure => show (⟨r.toArray⟩ : ByteArray).size < S.size; rw [toArr_size]; omega
          · have hf : fmp d.toNat = 2 := by
              unfold fmp
              rw [if_neg (show ¬ d.toNat = 92 from fun e => e1 (UInt8.toNat_inj.1 e)), if_neg (show ¬ d.toNat = 110 from fun e => e2 (UInt8.toNat_inj.1 e))]
            have LK := lk_else e1 e2 r
            clear e1 e2
            go_wp2_with fail
            apply wp_region_seq (l := [_, _, _, _, _, _, _]) (t := [_]) [some 51, some 52, some 53, some 54, some 55, some 56, some 57, some 12] [[], [], [1], [0], [3], [2, 4], [5], [6]] [7, 7, 7, 7, 7, 7, 7] [eqv _, eqv _, eqv _, eqv _, eqv _, eqv _, eqv _] (by kernel_rfl) (by kernel_rfl) ⟨?o0, ?o1, ?o2, ?o3, ?o4, ?o5, ?o6, trivial⟩ ?last
            case o0 => -- Op.move (Operand.tmp 0)
              intro xv V hE _
              simp only [putD, List.foldl_nil, List.getD_cons_zero]
              refine OpGoal.plain ?_
              go_wp2_with fail
              exact ⟨rfl, Ext.refl _, rfl⟩
            case o1 => -- Op.move (Operand.tmp 1)
              intro xv V hE _
              simp only [putD, List.foldl_nil, List.getD_cons_zero, List.getD_cons_succ]
              refine OpGoal.plain ?_
              go_wp2_with fail
              exact ⟨rfl, Ext.refl _, rfl⟩
            case o2 => -- Op.index 9 (Operand.tmp 52) (Operand.const (Value.int IntKind.i64 0))
              intro xv V hE hp
              have r1 : xv 1 = _ := hp.1
              clear hp
              simp only [putD, List.foldl_nil, List.foldl_cons, List.getD_cons_zero, List.getD_cons_succ, Act.put, List.setIfInBounds_toArray, List.set_cons_zero, List.set_cons_succ]
              refine OpGoal.plain ?_
              go_wp2_with fail
              exact ⟨rfl, Ext.refl _, rfl⟩
            case o3 => -- Op.nilCheck (Operand.tmp 51)
              intro xv V hE hp
              have r0 : xv 0 = _ := hp.1
              clear hp
              simp only [putD, List.foldl_nil, List.foldl_cons, List.getD_cons_zero, List.getD_cons_succ, Act.put, List.setIfInBounds_toArray, List.set_cons_zero, List.set_cons_succ]
              refine OpGoal.plain ?_
              go_wp2_with fail
              exact ⟨rfl, Ext.refl _, rfl⟩
            case o4 => -- Op.fieldAddr 169 (Operand.tmp 54) 2
              intro xv V hE hp
              have r3 : xv 3 = _ := hp.1
              clear hp
              simp only [putD, List.foldl_nil, List.foldl_cons, List.getD_cons_zero, List.getD_cons_succ, Act.put, List.setIfInBounds_toArray, List.set_cons_zero, List.set_cons_succ]
              refine OpGoal.plain ?_
              go_wp2_with fail
              exact ⟨rfl, Ext.refl _, rfl⟩
            case o5 => -- Op.indexAddr 131 (Operand.tmp 55) (Operand.tmp 53)
              intro xv V hE hp
              have r2 : xv 2 = _ := hp.1
              have r4 : xv 4 = _ := hp.2.1
              clear hp
              simp only [putD, List.foldl_nil, List.foldl_cons, List.getD_cons_zero, List.getD_cons_succ, Act.put, List.setIfInBounds_toArray, List.set_cons_zero, List.set_cons_succ]
              refine OpGoal.plain ?_
              go_wp2_with fail
              exact ⟨rfl, Ext.refl _, rfl⟩
            case o6 => -- Op.load 5 (Operand.tmp 56)
              intro xv V hE hp
              have r5 : xv 5 = _ := hp.1
              clear hp
              have km := (H1.ext ((Ext.drew wo).trans hE)).map (i := d.toNat) (by omega); rw [hf] at km
              simp only [putD, List.foldl_nil, List.foldl_cons, List.getD_cons_zero, List.getD_cons_succ, Act.put, List.setIfInBounds_toArray, List.set_cons_zero, List.set_cons_succ]
              refine OpGoal.plain ?_
              go_wp2_with fail
              exact ⟨rfl, Ext.refl _, rfl⟩
            case last =>
              intro xv V hE hp
              have r0 : xv 0 = _ := hp.1
              have r1 : xv 1 = _ := hp.2.1
              have r2 : xv 2 = _ := hp.2.2.1
              have r3 : xv 3 = _ := hp.2.2.2.1
              have r4 : xv 4 = _ := hp.2.2.2.2.1
              have r5 : xv 5 = _ := hp.2.2.2.2.2.1
              have r6 : xv 6 = _ := hp.2.2.2.2.2.2.1
              clear hp
              simp only [putD, List.foldl_nil, List.foldl_cons, List.getD_cons_zero, List.getD_cons_succ, Act.put, List.length_cons, List.length_nil, List.range_succ, List.range_zero, List.nil_append, List.cons_append, List.setIfInBounds_toArray, List.set_cons_zero, List.set_cons_succ]
              have hx := (Ext.drew wo).trans hE
              have c5 := (H1.ext hx).c5
              go_wp2_with fail
              go_ret3
              exact ⟨by first | rfl | (rw [LK]; rfl), hEo.trans hx⟩
    · have n0 := H5.cell
      obtain ⟨m0, m1, m2, m3, m4⟩ := n0
      cases l with
      | nil =>
        go_wp2_with fail
        go_ret3
        exact ⟨rfl, hE⟩
      | cons d r =>
        obtain ⟨S, hS, z1, z2, z3, z4⟩ := str_cons d r
        rw [← hS]
        clear hS
        go_wp2_with fail
        go_ret3
        exact ⟨rfl, hE⟩
    · have n0 := H6.cell
      obtain ⟨m0, m1, m2, m3, m4⟩ := n0
      cases l with
      | nil =>
        go_wp2_with fail
        go_ret3
        exact ⟨rfl, hE⟩
      | cons d r =>
        obtain ⟨S, hS, z1, z2, z3, z4⟩ := str_cons d r
        rw [← hS]
        clear hS
        go_wp2_with fail
        go_ret3
        exact ⟨rfl, hE⟩
end Go.Proofs.YthppcmejffdicaaGreatDoor
